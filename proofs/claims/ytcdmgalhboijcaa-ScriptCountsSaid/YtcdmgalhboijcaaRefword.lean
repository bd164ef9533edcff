/- Tokens of a text, as plain lists. -/
import Derived.Test.YtcdmgalhboijcaaWord
import Derived.Test.YtcdmgalhboijcaaBase
import Derived.Deep.LoopGhost
import Derived.IntWalk
namespace Go.Proofs.Ytcdmgalhboijcaa.Sc
open Go.RowKit Go.Shelf

def notFeed (c : UInt8) : Bool := c.toNat != 10
/-- How many bytes are left out; true: within a note. -/
def skp : Bool → List UInt8 → Nat
  | _, [] => 0
  | false, c :: l => if c.toNat = 32 ∨ c.toNat = 9 then skp false l + 1 else if c.toNat = 35 then skp true l + 1 else 0
  | true, c :: l => if c.toNat = 10 then 0 else skp true l + 1
structure Tk where
  kind : Nat
  at_ : Nat
  text : List UInt8
  num : Nat
deriving DecidableEq
def knd (c : UInt8) : Nat := if isLet c then 1 else if isDig c then 2 else if c.toNat = 61 then 3 else if c.toNat = 10 then 4 else 0
/-- How long the token is with which a text begins that isn't empty. -/
def tln : List UInt8 → Nat
  | [] => 0
  | c :: l => if isLet c then spn isGo (c :: l) else if isDig c then spn isDig (c :: l) else 1
def nmStep (n : Nat) (c : UInt8) : Nat := min (n * 10 + (c.toNat - 48)) 1099511627776
def nm (l : List UInt8) : Nat := l.foldl nmStep 0
def tkOf (at_ : Nat) : List UInt8 → Tk
  | [] => ⟨0, at_, [], 0⟩
  | c :: l => ⟨knd c, at_, (c :: l).take (tln (c :: l)), if knd c = 2 then nm ((c :: l).take (tln (c :: l))) else 0⟩
/-- The tokens from a place on (where nothing is left out), and where they end. -/
def toks : Nat → Nat → List UInt8 → List Tk × Nat
  | 0, at_, _ => ([], at_)
  | _ + 1, at_, [] => ([], at_)
  | f + 1, at_, c :: l => if knd c = 0 then ([], at_) else
      (tkOf at_ (c :: l) :: (toks f (at_ + tln (c :: l) + skp false ((c :: l).drop (tln (c :: l)))) (((c :: l).drop (tln (c :: l))).drop (skp false ((c :: l).drop (tln (c :: l)))))).1,
       (toks f (at_ + tln (c :: l) + skp false ((c :: l).drop (tln (c :: l)))) (((c :: l).drop (tln (c :: l))).drop (skp false ((c :: l).drop (tln (c :: l)))))).2)
def eachL (l : List UInt8) : List Tk × Nat := toks l.length (skp false l) (l.drop (skp false l))
theorem skp_le : ∀ (b : Bool) (l : List UInt8), skp b l ≤ l.length
  | _, [] => by simp [skp]
  | false, c :: l => by
    have h1 := skp_le false l
    have h2 := skp_le true l
    simp only [skp, List.length_cons]
    split
    · omega
    · split <;> omega
  | true, c :: l => by
    have h2 := skp_le true l
    simp only [skp, List.length_cons]
    split <;> omega
theorem skp_note (l : List UInt8) : skp true l = spn notFeed l + skp false (l.drop (spn notFeed l)) := by
  induction l with
  | nil => rfl
  | cons c l ih =>
    rw [spn_cons]
    unfold notFeed
    by_cases h : c.toNat = 10
    · simp [skp, h]
    · have h2 : (c.toNat != 10) = true := by simpa using h
      simp only [skp, if_neg h]
      rw [if_pos h2, ih]
      show _ = spn notFeed l + 1 + skp false ((c :: l).drop (spn notFeed l + 1))
      rw [List.drop_succ_cons]
      omega
theorem skp_blank {c : UInt8} {l : List UInt8} (h : c.toNat = 32 ∨ c.toNat = 9) : skp false (c :: l) = skp false l + 1 := by
  simp only [skp, if_pos h]
theorem skp_hash {c : UInt8} {l : List UInt8} (h : c.toNat = 35) : skp false (c :: l) = spn notFeed (c :: l) + skp false ((c :: l).drop (spn notFeed (c :: l))) := by
  rw [← skp_note]
  simp only [skp]
  rw [if_neg (by omega), if_pos h, if_neg (by omega)]
theorem skp_other {c : UInt8} {l : List UInt8} (h1 : c.toNat ≠ 32) (h2 : c.toNat ≠ 9) (h3 : c.toNat ≠ 35) : skp false (c :: l) = 0 := by
  simp only [skp]
  rw [if_neg (by omega), if_neg h3]
theorem let_go {c : UInt8} (h : isLet c = true) : isGo c = true := by unfold isGo; simp [h]
theorem tln_pos (c : UInt8) (l : List UInt8) : 1 ≤ tln (c :: l) := by
  simp only [tln]
  split
  · rw [spn_cons, if_pos (let_go ‹_›)]; omega
  · split
    · rw [spn_cons, if_pos ‹_›]; omega
    · omega
theorem tln_le (l : List UInt8) : tln l ≤ l.length := by
  cases l with
  | nil => simp [tln]
  | cons c l =>
    simp only [tln]
    split
    · exact spn_le _ _
    · split
      · exact spn_le _ _
      · simp
theorem nmStep_le (n : Nat) (c : UInt8) : nmStep n c ≤ 1099511627776 := by unfold nmStep; omega
theorem nm_le (l : List UInt8) : nm l ≤ 1099511627776 := by
  unfold nm
  have : ∀ (l : List UInt8) (n : Nat), n ≤ 1099511627776 → l.foldl nmStep n ≤ 1099511627776 := by
    intro l
    induction l with
    | nil => intro n h; exact h
    | cons c l ih => intro n _; exact ih _ (nmStep_le n c)
  exact this l 0 (by omega)
/-- More rounds tell the same. -/
theorem toks_more : ∀ (f g at_ : Nat) (l : List UInt8), l.length ≤ f → l.length ≤ g → toks f at_ l = toks g at_ l
  | 0, g, at_, [], _, _ => by cases g <;> rfl
  | f + 1, 0, at_, [], _, _ => rfl
  | f + 1, g + 1, at_, [], _, _ => rfl
  | 0, g, at_, c :: l, h, _ => by simp at h
  | f + 1, 0, at_, c :: l, _, h => by simp at h
  | f + 1, g + 1, at_, c :: l, h1, h2 => by
    simp only [toks]
    split
    · rfl
    · have hp := tln_pos c l
      simp only [List.length_cons] at h1 h2
      rw [toks_more f g _ _ (by simp; omega) (by simp; omega)]
/-- The tokens from a place on, where nothing is left out. -/
def rst (at_ : Nat) (l : List UInt8) : List Tk × Nat := toks l.length at_ l
theorem rst_nil (at_ : Nat) : rst at_ [] = ([], at_) := rfl
theorem rst_none (at_ : Nat) {c : UInt8} {l : List UInt8} (h : knd c = 0) : rst at_ (c :: l) = ([], at_) := by
  unfold rst; simp only [List.length_cons, toks, if_pos h]
/-- What stands behind a token. -/
def nxt (l : List UInt8) : Nat := tln l + skp false (l.drop (tln l))
theorem nxt_pos (c : UInt8) (l : List UInt8) : 1 ≤ nxt (c :: l) := by unfold nxt; have := tln_pos c l; omega
theorem nxt_le (l : List UInt8) : nxt l ≤ l.length := by
  unfold nxt
  have h1 := tln_le l
  have h2 := skp_le false (l.drop (tln l))
  simp at h2
  omega
theorem rst_some (at_ : Nat) {c : UInt8} {l : List UInt8} (h : knd c ≠ 0) : rst at_ (c :: l) = (tkOf at_ (c :: l) :: (rst (at_ + nxt (c :: l)) ((c :: l).drop (nxt (c :: l)))).1, (rst (at_ + nxt (c :: l)) ((c :: l).drop (nxt (c :: l)))).2) := by
  have hp := tln_pos c l
  have hx := nxt_pos c l
  conv => lhs; unfold rst
  simp only [List.length_cons, toks, if_neg h, List.drop_drop]
  unfold rst
  rw [show at_ + tln (c :: l) + skp false ((c :: l).drop (tln (c :: l))) = at_ + nxt (c :: l) by unfold nxt; omega]
  rw [show tln (c :: l) + skp false ((c :: l).drop (tln (c :: l))) = nxt (c :: l) from rfl]
  rw [toks_more l.length ((c :: l).drop (nxt (c :: l))).length _ _ (by simp; omega) (Nat.le_refl _)]
theorem eachL_eq (l : List UInt8) : eachL l = rst (skp false l) (l.drop (skp false l)) := by
  unfold eachL rst
  exact toks_more _ _ _ _ (by simp) (Nat.le_refl _)
theorem rst_end_ge : ∀ (n : Nat) (at_ : Nat) (l : List UInt8), l.length ≤ n → at_ ≤ (rst at_ l).2 ∧ (rst at_ l).2 ≤ at_ + l.length
  | _, at_, [], _ => by simp [rst_nil]
  | 0, at_, c :: l, h => by simp at h
  | n + 1, at_, c :: l, h => by
    by_cases hk : knd c = 0
    · rw [rst_none _ hk]; simp
    · rw [rst_some _ hk]
      have hx := nxt_pos c l
      have hy := nxt_le (c :: l)
      have := rst_end_ge n (at_ + nxt (c :: l)) ((c :: l).drop (nxt (c :: l))) (by simp at h ⊢; omega)
      simp at this hy ⊢
      omega
theorem rst_len : ∀ (n : Nat) (at_ : Nat) (l : List UInt8), l.length ≤ n → (rst at_ l).1.length ≤ l.length
  | _, at_, [], _ => by simp [rst_nil]
  | 0, at_, c :: l, h => by simp at h
  | n + 1, at_, c :: l, h => by
    by_cases hk : knd c = 0
    · rw [rst_none _ hk]; simp
    · rw [rst_some _ hk]
      have hx := nxt_pos c l
      have := rst_len n (at_ + nxt (c :: l)) ((c :: l).drop (nxt (c :: l))) (by simp at h ⊢; omega)
      simp at this ⊢
      omega
theorem eachL_len (l : List UInt8) : (eachL l).1.length ≤ l.length := by
  rw [eachL_eq]
  have := rst_len _ (skp false l) (l.drop (skp false l)) (Nat.le_refl _)
  simp at this ⊢
  omega
theorem eachL_end (l : List UInt8) : (eachL l).2 ≤ l.length := by
  rw [eachL_eq]
  have h := rst_end_ge _ (skp false l) (l.drop (skp false l)) (Nat.le_refl _)
  have := skp_le false l
  simp at h
  omega
theorem notFeed_int (c : UInt8) : notFeed c = ((c.toNat : Int) != 10) := by
  unfold notFeed
  rw [Bool.eq_iff_iff]
  simp
  omega

theorem tail_data (s : ByteArray) (k : Nat) : (s.extract k s.size).data.toList = s.data.toList.drop k := by
  exact Lib.extract_to_end s k
theorem tail_size (s : ByteArray) (k : Nat) : (s.extract k s.size).size = s.size - k := by
  simp

theorem nm_snoc (l : List UInt8) (c : UInt8) : nm (l ++ [c]) = nmStep (nm l) c := by unfold nm; rw [List.foldl_append]; rfl

theorem mk_take (s : ByteArray) (n : Nat) : s.extract 0 n = ⟨(s.data.toList.take n).toArray⟩ := by
  apply ByteArray.ext
  apply Array.toList_inj.1
  rw [Lib.extract_data]
  simp

def tkV (t : Tk) : Value := .agg #[.int .i64 t.kind, .int .i64 t.at_, .string ⟨t.text.toArray⟩, .int .i64 t.num]
/-- What one tells: of no token the zero one. -/
def oneV (l : List UInt8) : Value := if (tkOf 0 l).kind = 0 then .agg #[.int .i64 0, .int .i64 0, .string ⟨#[]⟩, .int .i64 0] else tkV (tkOf 0 l)

theorem take_all {p : UInt8 → Bool} : ∀ {l : List UInt8}, ∀ c ∈ l.take (spn p l), p c = true
  | [], c, h => by simp at h
  | d :: l, c, h => by
    rw [spn_cons] at h
    split at h
    · rw [List.take_succ_cons] at h
      rcases List.mem_cons.1 h with rfl | h
      · assumption
      · exact take_all c h
    · simp at h

theorem knd_let {c : UInt8} (h : isLet c = true) : knd c = 1 := by unfold knd; rw [if_pos h]
theorem knd_dig {c : UInt8} (h : isLet c = false) (h2 : isDig c = true) : knd c = 2 := by unfold knd; rw [if_neg (by simp [h]), if_pos h2]
theorem knd_eq {c : UInt8} (h : isLet c = false) (h2 : isDig c = false) (h3 : c.toNat = 61) : knd c = 3 := by unfold knd; rw [if_neg (by simp [h]), if_neg (by simp [h2]), if_pos h3]
theorem knd_feed {c : UInt8} (h : isLet c = false) (h2 : isDig c = false) (h3 : c.toNat ≠ 61) (h4 : c.toNat = 10) : knd c = 4 := by unfold knd; rw [if_neg (by simp [h]), if_neg (by simp [h2]), if_neg h3, if_pos h4]
theorem knd_none {c : UInt8} (h : isLet c = false) (h2 : isDig c = false) (h3 : c.toNat ≠ 61) (h4 : c.toNat ≠ 10) : knd c = 0 := by unfold knd; rw [if_neg (by simp [h]), if_neg (by simp [h2]), if_neg h3, if_neg h4]
theorem tln_let {c : UInt8} {l : List UInt8} (h : isLet c = true) : tln (c :: l) = spn isGo (c :: l) := by simp only [tln]; rw [if_pos h]
theorem tln_dig {c : UInt8} {l : List UInt8} (h : isLet c = false) (h2 : isDig c = true) : tln (c :: l) = spn isDig (c :: l) := by simp only [tln]; rw [if_neg (by simp [h]), if_pos h2]
theorem tln_one {c : UInt8} {l : List UInt8} (h : isLet c = false) (h2 : isDig c = false) : tln (c :: l) = 1 := by simp only [tln]; rw [if_neg (by simp [h]), if_neg (by simp [h2])]
theorem oneV_kind {c : UInt8} {l : List UInt8} {k n : Nat} (hk : knd c = k) (h0 : k ≠ 0) (hn : tln (c :: l) = n) : oneV (c :: l) = .agg #[.int .i64 (k : Nat), .int .i64 (0 : Nat), .string ⟨((c :: l).take n).toArray⟩, .int .i64 ((if k = 2 then nm ((c :: l).take n) else 0 : Nat) : Nat)] := by
  have e : tkOf 0 (c :: l) = ⟨k, 0, (c :: l).take n, if k = 2 then nm ((c :: l).take n) else 0⟩ := by
    simp only [tkOf, hk, hn]
  unfold oneV tkV
  rw [e]
  simp only
  rw [if_neg h0]
theorem oneV_none {c : UInt8} {l : List UInt8} (hk : knd c = 0) : oneV (c :: l) = .agg #[.int .i64 0, .int .i64 0, .string ⟨#[]⟩, .int .i64 0] := by
  unfold oneV
  rw [if_pos (by simp only [tkOf, hk])]

end Go.Proofs.Ytcdmgalhboijcaa.Sc
/- The document's own token at a place: the walk. -/
namespace Go.Proofs.Ytcdmgalhboijcaa.Sc
open Go.RowKit Go.Shelf

theorem refLet_int (c : UInt8) : isLet c = ((decide (97 ≤ (c.toNat : Int)) && decide ((c.toNat : Int) ≤ 122)) || ((decide (65 ≤ (c.toNat : Int)) && decide ((c.toNat : Int) ≤ 90)) || ((c.toNat : Int) == 95))) := by
  have h : ∀ n : Fin 256, isLet (UInt8.ofNat n.val) = ((decide (97 ≤ ((UInt8.ofNat n.val).toNat : Int)) && decide (((UInt8.ofNat n.val).toNat : Int) ≤ 122)) || ((decide (65 ≤ ((UInt8.ofNat n.val).toNat : Int)) && decide (((UInt8.ofNat n.val).toNat : Int) ≤ 90)) || (((UInt8.ofNat n.val).toNat : Int) == 95))) := by decide +kernel
  have := h ⟨c.toNat, c.toNat_lt⟩
  simpa using this

theorem refLetter_any (c : UInt8) (w : World) : Calls Try.prog 53 #[.int .u8 (c.toNat : Int)] w fun e w' => e = .returned (.bool (isLet c)) ∧ w = w' := by
  go_enter Try.func53, Try.ntmps53
  go_wp2
  all_goals
    go_ret
    refine ⟨congrArg (fun b : Bool => Ending.returned (.bool b)) ?_, rfl⟩
    rw [refLet_int, Bool.eq_iff_iff]
    simp
    omega

theorem refDigit_any (c : UInt8) (w : World) : Calls Try.prog 54 #[.int .u8 (c.toNat : Int)] w fun e w' => e = .returned (.bool (isDig c)) ∧ w = w' := by
  go_enter Try.func54, Try.ntmps54
  go_wp2
  all_goals
    go_ret
    exact ⟨by rw [isDig_int]; (first | (simp [*]; done) | (simp [*]; omega)), rfl⟩

/-- Of no token the zero one. -/
def oneAt (a : Nat) (l : List UInt8) : Value := if (tkOf a l).kind = 0 then .agg #[.int .i64 0, .int .i64 0, .string ⟨#[]⟩, .int .i64 0] else tkV (tkOf a l)
theorem oneAt_kind {a : Nat} {c : UInt8} {l : List UInt8} {k n : Nat} (hk : knd c = k) (h0 : k ≠ 0) (hn : tln (c :: l) = n) : oneAt a (c :: l) = .agg #[.int .i64 (k : Nat), .int .i64 (a : Nat), .string ⟨((c :: l).take n).toArray⟩, .int .i64 ((if k = 2 then nm ((c :: l).take n) else 0 : Nat) : Nat)] := by
  have e : tkOf a (c :: l) = ⟨k, a, (c :: l).take n, if k = 2 then nm ((c :: l).take n) else 0⟩ := by
    simp only [tkOf, hk, hn]
  unfold oneAt tkV
  rw [e]
  simp only
  rw [if_neg h0]
theorem oneAt_none {a : Nat} {c : UInt8} {l : List UInt8} (hk : knd c = 0) : oneAt a (c :: l) = .agg #[.int .i64 0, .int .i64 0, .string ⟨#[]⟩, .int .i64 0] := by
  unfold oneAt
  rw [if_pos (by simp only [tkOf, hk])]
theorem mk_part (s : ByteArray) (a n : Nat) : s.extract a (a + n) = ⟨((s.data.toList.drop a).take n).toArray⟩ := by
  apply ByteArray.ext
  apply Array.toList_inj.1
  rw [Lib.extract_data]
  simp

/-- What lies in memory: the result, and the token that is made. -/
structure Two (w : World) (B a : Nat) (kd : Int) (nu : Int) (W : World) : Prop where
  keeps : Keeps [] w W
  r : W.heap[B]? = some (.cells #[.int .i64 0, .int .i64 0, .string ⟨#[]⟩, .int .i64 0] 84 (0, 0))
  x : W.heap[B + 1]? = some (.cells #[.int .i64 kd, .int .i64 a, .string ⟨#[]⟩, .int .i64 nu] 84 (0, 0))

theorem Two.setK {w W : World} {B a : Nat} {kd nu : Int} (h : Two w B a kd nu W) (hB : w.heap.size ≤ B) (k : Int) : Two w B a k nu (W.setCell ⟨B + 1, 0, none⟩ (.int .i64 k)) :=
  ⟨h.keeps.setCell _ 0 _ (.inr (by omega)), blk_set_other h.r _ _ (by simp), by simpa using blk_set_same h.x 0 (.int .i64 k)⟩
theorem Two.setN {w W : World} {B a : Nat} {kd nu : Int} (h : Two w B a kd nu W) (hB : w.heap.size ≤ B) (n : Int) : Two w B a kd n (W.setCell ⟨B + 1, 3, none⟩ (.int .i64 n)) :=
  ⟨h.keeps.setCell _ 3 _ (.inr (by omega)), blk_set_other h.r _ _ (by simp), by simpa using blk_set_same h.x 3 (.int .i64 n)⟩
theorem Two.drew {w W : World} {B a : Nat} {kd nu : Int} (h : Two w B a kd nu W) : Two w B a kd nu W.drew := ⟨h.keeps.drew, h.r, h.x⟩
theorem Two.kept {w W W' : World} {B a : Nat} {kd nu : Int} (h : Two w B a kd nu W) (k : Keeps [] W W') : Two w B a kd nu W' := ⟨h.keeps.trans k, k.blk h.r (by simp), k.blk h.x (by simp)⟩
theorem Two.facts {w W : World} {B a : Nat} {kd nu : Int} (h : Two w B a kd nu W) :
    (W.cell? ⟨B, 0, none⟩ = some (.int .i64 0) ∧ W.cell? ⟨B, 1, none⟩ = some (.int .i64 0) ∧ W.cell? ⟨B, 2, none⟩ = some (.string ⟨#[]⟩) ∧ W.cell? ⟨B, 3, none⟩ = some (.int .i64 0)) ∧
    (W.frozen? ⟨B, 0, none⟩ = false ∧ W.frozen? ⟨B, 1, none⟩ = false ∧ W.frozen? ⟨B, 2, none⟩ = false ∧ W.frozen? ⟨B, 3, none⟩ = false) ∧
    (W.cell? ⟨B + 1, 0, none⟩ = some (.int .i64 kd) ∧ W.cell? ⟨B + 1, 1, none⟩ = some (.int .i64 a) ∧ W.cell? ⟨B + 1, 2, none⟩ = some (.string ⟨#[]⟩) ∧ W.cell? ⟨B + 1, 3, none⟩ = some (.int .i64 nu)) ∧
    (W.frozen? ⟨B + 1, 0, none⟩ = false ∧ W.frozen? ⟨B + 1, 1, none⟩ = false ∧ W.frozen? ⟨B + 1, 2, none⟩ = false ∧ W.frozen? ⟨B + 1, 3, none⟩ = false) :=
  ⟨⟨cell_blk h.r 0, cell_blk h.r 1, cell_blk h.r 2, cell_blk h.r 3⟩, ⟨free_blk h.r 0, free_blk h.r 1, free_blk h.r 2, free_blk h.r 3⟩, ⟨cell_blk h.x 0, cell_blk h.x 1, cell_blk h.x 2, cell_blk h.x 3⟩, ⟨free_blk h.x 0, free_blk h.x 1, free_blk h.x 2, free_blk h.x 3⟩⟩

theorem Two.fin {w W : World} {B a : Nat} {kd nu : Int} (h : Two w B a kd nu W) (hB : w.heap.size ≤ B) (tx : Value) :
    (((((W.setCell ⟨B + 1, 2, none⟩ tx).setCell ⟨B, 0, none⟩ (.int .i64 kd)).setCell ⟨B, 1, none⟩ (.int .i64 a)).setCell ⟨B, 2, none⟩ tx).setCell ⟨B, 3, none⟩ (.int .i64 nu)).heap[B]? = some (.cells #[.int .i64 kd, .int .i64 a, tx, .int .i64 nu] 84 (0, 0)) ∧
    Keeps [] w (((((W.setCell ⟨B + 1, 2, none⟩ tx).setCell ⟨B, 0, none⟩ (.int .i64 kd)).setCell ⟨B, 1, none⟩ (.int .i64 a)).setCell ⟨B, 2, none⟩ tx).setCell ⟨B, 3, none⟩ (.int .i64 nu)) := by
  refine ⟨?_, ((((h.keeps.setCell _ 2 _ (.inr (by omega))).setCell B 0 _ (.inr hB)).setCell B 1 _ (.inr hB)).setCell B 2 _ (.inr hB)).setCell B 3 _ (.inr hB)⟩
  have := blk_set_same (blk_set_same (blk_set_same (blk_set_same (blk_set_other h.r ⟨B + 1, 2, none⟩ tx (by simp)) 0 (.int .i64 kd)) 1 (.int .i64 a)) 2 tx) 3 (.int .i64 nu)
  simpa using this

set_option maxHeartbeats 2000000 in
set_option maxRecDepth 100000 in
theorem refOne_any (s : ByteArray) (hs : s.size ≤ 9223372036854775807) (a : Nat) (ha : a < s.size) (w : World) :
    Calls Try.prog 49 #[.string s, .int .i64 (a : Int)] w fun e w' => e = .returned (oneAt a (s.data.toList.drop a)) ∧ Keeps [] w w' := by
  obtain ⟨c, l, hl⟩ : ∃ c l, s.data.toList.drop a = c :: l := ⟨s[a], s.data.toList.drop (a + 1), by rw [List.drop_eq_getElem_cons (by simpa using ha)]; rfl⟩
  have h0 : s[a] = c := by
    have := congrArg List.head? hl
    rw [List.head?_drop] at this
    simp [ha] at this
    exact this
  have hlen : (c :: l).length = s.size - a := by rw [← hl]; simp
  have H0 := Lib.hid h0
  have HL := Lib.hid (And.intro hl hlen)
  have ha' : (a : Int) < (s.size : Int) := by omega
  clear hl h0 hlen
  go_enter Try.func49, Try.ntmps49
  go_wp2_with fail
  have T0 : Two w w.heap.size a 0 0 ((w.alloc (.cells #[.int .i64 0, .int .i64 0, .string ⟨#[]⟩, .int .i64 0] 84)).alloc (.cells #[.int .i64 0, .int .i64 a, .string ⟨#[]⟩, .int .i64 0] 84)) :=
    ⟨((Keeps.refl _ _).alloc _).alloc _, blk_alloc (blk_new _ _) _, by simpa using blk_new (w.alloc _) _⟩
  obtain ⟨B, hB⟩ : ∃ B, B = w.heap.size := ⟨_, rfl⟩
  rw [← hB] at T0 ⊢
  have hB' : w.heap.size ≤ B := by omega
  clear hB
  generalize ((w.alloc (.cells #[.int .i64 0, .int .i64 0, .string ⟨#[]⟩, .int .i64 0] 84)).alloc (.cells #[.int .i64 0, .int .i64 a, .string ⟨#[]⟩, .int .i64 0] 84)) = w0 at T0 ⊢
  refine (refLetter_any s[a] _).mono ?_
  rintro e w' ⟨rfl, rfl⟩
  rw [H0.out]
  go_wp2_with fail
  refine (refDigit_any c _).mono ?_
  rintro e w' ⟨rfl, rfl⟩
  cases h1 : isLet c
  · have H1 := Lib.hid h1
    clear h1
    cases h2 : isDig c
    · have H2 := Lib.hid h2
      clear h2
      obtain ⟨⟨r0, r1, r2, r3⟩, ⟨e0, e1, e2, e3⟩, ⟨x0, x1, x2, x3⟩, ⟨f0, f1, f2, f3⟩⟩ := T0.facts
      have HT := Lib.hid T0
      clear T0
      by_cases h3 : c.toNat = 61
      · have t3 : ((c.toNat : Int) == 61) = true := by rw [beq_iff_eq]; omega
        have hv : oneAt a (s.data.toList.drop a) = .agg #[.int .i64 3, .int .i64 a, .string (s.extract a (a + 1)), .int .i64 0] := by
          rw [mk_part, HL.out.1]
          exact oneAt_kind (knd_eq H1.out H2.out h3) (by decide) (tln_one H1.out H2.out)
        have HV := Lib.hid hv
        have l1 : (a : Int) + 1 ≤ (s.size : Int) := by omega
        clear hv h3
        go_wp2
        obtain ⟨hf, hk⟩ := Two.fin (HT.out.setK hB' 3) hB' (.string (s.extract a (a + 1)))
        rw [HV.out]
        generalize ((((((w0.setCell ⟨B + 1, 0, none⟩ (.int .i64 3)).setCell ⟨B + 1, 2, none⟩ (.string (s.extract a (a + 1)))).setCell ⟨B, 0, none⟩ (.int .i64 3)).setCell ⟨B, 1, none⟩ (.int .i64 a)).setCell ⟨B, 2, none⟩ (.string (s.extract a (a + 1)))).setCell ⟨B, 3, none⟩ (.int .i64 0)) = W9 at hf hk ⊢
        have d0 : W9.cell? ⟨B, 0, none⟩ = some (.int .i64 3) := cell_blk hf 0
        have d1 : W9.cell? ⟨B, 1, none⟩ = some (.int .i64 a) := cell_blk hf 1
        have d2 : W9.cell? ⟨B, 2, none⟩ = some (.string (s.extract a (a + 1))) := cell_blk hf 2
        have d3 : W9.cell? ⟨B, 3, none⟩ = some (.int .i64 0) := cell_blk hf 3
        exact bodyPost_ret (v := .agg #[.int .i64 3, .int .i64 a, .string (s.extract a (a + 1)), .int .i64 0]) (by simp [results, Try.results49, go_sem, d0, d1, d2, d3]) rfl ⟨rfl, hk⟩
      · have t3 : ((c.toNat : Int) == 61) = false := by rw [beq_eq_false_iff_ne]; omega
        by_cases h4 : c.toNat = 10
        · have t4 : ((c.toNat : Int) == 10) = true := by rw [beq_iff_eq]; omega
          have hv : oneAt a (s.data.toList.drop a) = .agg #[.int .i64 4, .int .i64 a, .string (s.extract a (a + 1)), .int .i64 0] := by
            rw [mk_part, HL.out.1]
            exact oneAt_kind (knd_feed H1.out H2.out h3 h4) (by decide) (tln_one H1.out H2.out)
          have HV := Lib.hid hv
          have l1 : (a : Int) + 1 ≤ (s.size : Int) := by omega
          clear hv h3 h4
          go_wp2
          obtain ⟨hf, hk⟩ := Two.fin (HT.out.setK hB' 4) hB' (.string (s.extract a (a + 1)))
          rw [HV.out]
          generalize ((((((w0.setCell ⟨B + 1, 0, none⟩ (.int .i64 4)).setCell ⟨B + 1, 2, none⟩ (.string (s.extract a (a + 1)))).setCell ⟨B, 0, none⟩ (.int .i64 4)).setCell ⟨B, 1, none⟩ (.int .i64 a)).setCell ⟨B, 2, none⟩ (.string (s.extract a (a + 1)))).setCell ⟨B, 3, none⟩ (.int .i64 0)) = W9 at hf hk ⊢
          have d0 : W9.cell? ⟨B, 0, none⟩ = some (.int .i64 4) := cell_blk hf 0
          have d1 : W9.cell? ⟨B, 1, none⟩ = some (.int .i64 a) := cell_blk hf 1
          have d2 : W9.cell? ⟨B, 2, none⟩ = some (.string (s.extract a (a + 1))) := cell_blk hf 2
          have d3 : W9.cell? ⟨B, 3, none⟩ = some (.int .i64 0) := cell_blk hf 3
          exact bodyPost_ret (v := .agg #[.int .i64 4, .int .i64 a, .string (s.extract a (a + 1)), .int .i64 0]) (by simp [results, Try.results49, go_sem, d0, d1, d2, d3]) rfl ⟨rfl, hk⟩
        · have t4 : ((c.toNat : Int) == 10) = false := by rw [beq_eq_false_iff_ne]; omega
          have hv : oneAt a (s.data.toList.drop a) = .agg #[.int .i64 0, .int .i64 0, .string ⟨#[]⟩, .int .i64 0] := by
            rw [HL.out.1]
            exact oneAt_none (knd_none H1.out H2.out h3 h4)
          have HV := Lib.hid hv
          clear hv h3 h4
          go_wp2
          have hf := blk_set_same (blk_set_same (blk_set_same (blk_set_same HT.out.r 0 (.int .i64 0)) 1 (.int .i64 0)) 2 (.string ⟨#[]⟩)) 3 (.int .i64 0)
          have hk := (((HT.out.keeps.setCell B 0 (.int .i64 0) (.inr hB')).setCell B 1 (.int .i64 0) (.inr hB')).setCell B 2 (.string ⟨#[]⟩) (.inr hB')).setCell B 3 (.int .i64 0) (.inr hB')
          rw [HV.out]
          generalize ((((w0.setCell ⟨B, 0, none⟩ (.int .i64 0)).setCell ⟨B, 1, none⟩ (.int .i64 0)).setCell ⟨B, 2, none⟩ (.string ⟨#[]⟩)).setCell ⟨B, 3, none⟩ (.int .i64 0)) = W9 at hf hk ⊢
          simp only [List.setIfInBounds_toArray, List.set_cons_zero, List.set_cons_succ] at hf
          have d0 : W9.cell? ⟨B, 0, none⟩ = some (.int .i64 0) := cell_blk hf 0
          have d1 : W9.cell? ⟨B, 1, none⟩ = some (.int .i64 0) := cell_blk hf 1
          have d2 : W9.cell? ⟨B, 2, none⟩ = some (.string ⟨#[]⟩) := cell_blk hf 2
          have d3 : W9.cell? ⟨B, 3, none⟩ = some (.int .i64 0) := cell_blk hf 3
          exact bodyPost_ret (v := .agg #[.int .i64 0, .int .i64 0, .string ⟨#[]⟩, .int .i64 0]) (by simp [results, Try.results49, go_sem, d0, d1, d2, d3]) rfl ⟨rfl, hk⟩
    · have H2 := Lib.hid h2
      clear h2
      have HT := Lib.hid (T0.setK hB' 2)
      obtain ⟨⟨r0, r1, r2, r3⟩, ⟨e0, e1, e2, e3⟩, ⟨x0, x1, x2, x3⟩, ⟨f0, f1, f2, f3⟩⟩ := T0.facts
      clear T0
      go_wp2_with fail
      clear r0 r1 r2 r3 e0 e1 e2 e3 x0 x1 x2 x3 f0 f1 f2 f3
      generalize (w0.setCell ⟨B + 1, 0, none⟩ (.int .i64 2)) = w1 at HT ⊢
      have l0 : 1 ≤ (c :: l).length := by simp
      have hp0 : 1 + spn isDig ((c :: l).drop 1) = spn isDig (c :: l) := by
        rw [spn_cons, if_pos H2.out]; simp; omega
      go_loopg [6] ((c :: l).length) (fun gh ev wr => wr = w1 ∧ ∃ k : Nat, (c :: l).length - k ≤ gh ∧ 1 ≤ k ∧ k ≤ (c :: l).length ∧ ev = .int .i64 ((a : Int) + (k : Int)) ∧ k + spn isDig ((c :: l).drop k) = spn isDig (c :: l))
      case atStart => exact ⟨rfl, 1, by omega, by omega, l0, rfl, hp0⟩
      case round =>
        obtain ⟨rfl, k, hgh, hk1, hk, rfl, hr⟩ := hrel
        have HR := Lib.hid hr
        have hll := HL.out.2
        have hks : a + k ≤ s.size := by omega
        have HK := Lib.hid (And.intro hk hgh)
        clear hr hp0 hll hk l0 hgh
        by_cases hlt : a + k < s.size
        · have hlt' : (a : Int) + (k : Int) < (s.size : Int) := by omega
          have hB2 : k + 1 ≤ (c :: l).length := by have := HL.out.2; omega
          have HB2 := Lib.hid hB2
          obtain ⟨d, hd⟩ : ∃ d, (c :: l)[k]? = some d := ⟨_, List.getElem?_eq_getElem (by omega)⟩
          have hsd : s[a + k] = d := by
            have : s.data.toList[a + k]? = some d := by rw [← List.getElem?_drop, HL.out.1]; exact hd
            simp [hlt] at this
            exact this
          have HSD := Lib.hid hsd
          have HD := Lib.hid hd
          clear hd hB2 hsd
          go_wp2_with fail
          refine (refDigit_any s[a + k] _).mono ?_
          rintro e w' ⟨rfl, rfl⟩
          rw [HSD.out]
          cases g1 : isDig d
          · have HS := Lib.hid (spn_no HR.out HD.out g1)
            clear g1
            have hks' : (a : Int) + (k : Int) ≤ (s.size : Int) := by omega
            have hv : oneAt a (s.data.toList.drop a) = .agg #[.int .i64 2, .int .i64 a, .string (s.extract a (a + k)), .int .i64 (nm ((c :: l).take k))] := by
              rw [mk_part, HL.out.1]
              exact oneAt_kind (knd_dig H1.out H2.out) (by decide) (by rw [tln_dig H1.out H2.out, HS.out])
            have HV := Lib.hid hv
            have hall : ∀ d ∈ (c :: l).take k, isDig d = true := by rw [← HS.out]; exact take_all
            have HALL := Lib.hid hall
            obtain ⟨wo, rfl⟩ : ∃ wo : World, wo = wr := ⟨_, rfl⟩
            clear hv hall
            go_wp2_with fail
            go_loopg [10] (k) (fun gh iv wr => ∃ j : Nat, k - j ≤ gh ∧ j ≤ k ∧ iv = .int .i64 ((a : Int) + (j : Int)) ∧ Two w B a 2 (nm ((c :: l).take j) : Nat) wr)
            case atStart => exact ⟨0, by omega, by omega, by go_num, HT.out⟩
            case round =>
              obtain ⟨j, hgj, hj, rfl, hT⟩ := hrel
              have HGJ := Lib.hid hgj
              have hle := nm_le ((c :: l).take j)
              obtain ⟨⟨r0, r1, r2, r3⟩, ⟨e0, e1, e2, e3⟩, ⟨x0, x1, x2, x3⟩, ⟨f0, f1, f2, f3⟩⟩ := hT.facts
              have HTj := Lib.hid hT
              clear hT hgj
              by_cases hjk : j < k
              · have hjk' : (a : Int) + (j : Int) < (a : Int) + (k : Int) := by omega
                have hjs : a + j < s.size := by omega
                have hjs' : (a : Int) + (j : Int) < (s.size : Int) := by omega
                have h0j : 0 ≤ (a : Int) + (j : Int) := by omega
                have htj : ((a : Int) + (j : Int)).toNat = a + j := by omega
                obtain ⟨d, hd⟩ : ∃ d, (c :: l)[j]? = some d := ⟨_, List.getElem?_eq_getElem (by have := HK.out.1; omega)⟩
                have hsd : s[a + j] = d := by
                  have : s.data.toList[a + j]? = some d := by rw [← List.getElem?_drop, HL.out.1]; exact hd
                  simp [hjs] at this
                  exact this
                have hdd := HALL.out d (List.mem_of_getElem? (i := j) (by rw [List.getElem?_take, if_pos hjk]; exact hd))
                have hns : nm ((c :: l).take (j + 1)) = nmStep (nm ((c :: l).take j)) d := by rw [List.take_add_one, hd]; exact nm_snoc _ _
                unfold isDig at hdd
                simp at hdd
                have h48 : 48 ≤ (s[a + j].toNat : Int) := by rw [hsd]; omega
                have h57 : (s[a + j].toNat : Int) ≤ 57 := by rw [hsd]; omega
                have HNS := Lib.hid (And.intro hns (And.intro hsd hdd))
                clear hns hsd hdd hd
                generalize hN : nm ((c :: l).take j) = N at hle HNS HTj x3
                have HN := Lib.hid hN
                clear hN
                have m1 : IntKind.i64.wrap ((N : Int) * 10) = (N : Int) * 10 := IntWalk.i64_in _ (by omega)
                have m2 : IntKind.u8.wrap ((s[a + j].toNat : Int) - 48) = (s[a + j].toNat : Int) - 48 := IntWalk.u8_in _ (by omega)
                have m4 : IntKind.i64.wrap ((s[a + j].toNat : Int) - 48) = (s[a + j].toNat : Int) - 48 := IntWalk.i64_in _ (by omega)
                have m3 : IntKind.i64.wrap ((N : Int) * 10 + ((s[a + j].toNat : Int) - 48)) = (N : Int) * 10 + ((s[a + j].toNat : Int) - 48) := IntWalk.i64_in _ (by omega)
                go_wp2_with fail
                go_still_tail 11, (by kernel_rfl)
                refine name_drew_list (w := wr) ?_
                rintro W2 K2 -
                have HT2 := Lib.hid (HTj.out.kept K2)
                clear r0 r1 r2 r3 e0 e1 e2 e3 x0 x1 x2 x3 f0 f1 f2 f3 m1 m2 m3 m4 K2
                obtain ⟨-, -, ⟨x0, x1, x2, x3⟩, ⟨f0, f1, f2, f3⟩⟩ := HT2.out.facts
                have hval : ∀ V : Int, V = (if (1099511627776 : Int) < (N : Int) * 10 + ((s[a + j].toNat : Int) - 48) then 1099511627776 else (N : Int) * 10 + ((s[a + j].toNat : Int) - 48)) → V = (nm ((c :: l).take (j + 1)) : Nat) := by
                  rintro V rfl
                  rw [HNS.out.1, HNS.out.2.1]
                  have := HNS.out.2.2
                  unfold nmStep
                  split <;> omega
                have HVAL : Hid (∀ V : Int, V = (if (1099511627776 : Int) < (N : Int) * 10 + ((s[a + j].toNat : Int) - 48) then 1099511627776 else (N : Int) * 10 + ((s[a + j].toNat : Int) - 48)) → Two w B a 2 (nm ((c :: l).take (j + 1)) : Nat) (W2.setCell ⟨B + 1, 3, none⟩ (.int .i64 V))) := Lib.hid (fun V hV => by
                  rw [← hval V hV]; exact HT2.out.setN hB' _)
                clear hval
                by_cases hgt : (1099511627776 : Int) < (N : Int) * 10 + ((s[a + j].toNat : Int) - 48)
                · go_wp2
                  go_roundg (k - (j + 1))
                  case rel => exact ⟨j + 1, Nat.le_refl _, by omega, by go_num, HVAL.out _ (by rw [if_pos hgt])⟩
                  case measure => have := HGJ.out; omega
                · have hgt' : (N : Int) * 10 + ((s[a + j].toNat : Int) - 48) ≤ 1099511627776 := by omega
                  go_wp2
                  go_roundg (k - (j + 1))
                  case rel => exact ⟨j + 1, Nat.le_refl _, by omega, by go_num, HVAL.out _ (by rw [if_neg (by omega)])⟩
                  case measure => have := HGJ.out; omega
              · obtain rfl : j = k := by omega
                clear hjk
                go_wp2
                obtain ⟨hf, hk⟩ := Two.fin (HTj.out) hB' (.string (s.extract a (a + j)))
                rw [HV.out]
                generalize (((((wr.setCell ⟨B + 1, 2, none⟩ (.string (s.extract a (a + j)))).setCell ⟨B, 0, none⟩ (.int .i64 2)).setCell ⟨B, 1, none⟩ (.int .i64 a)).setCell ⟨B, 2, none⟩ (.string (s.extract a (a + j)))).setCell ⟨B, 3, none⟩ (.int .i64 (nm ((c :: l).take j)))) = W9 at hf hk ⊢
                have d0 : W9.cell? ⟨B, 0, none⟩ = some (.int .i64 2) := cell_blk hf 0
                have d1 : W9.cell? ⟨B, 1, none⟩ = some (.int .i64 a) := cell_blk hf 1
                have d2 : W9.cell? ⟨B, 2, none⟩ = some (.string (s.extract a (a + j))) := cell_blk hf 2
                have d3 : W9.cell? ⟨B, 3, none⟩ = some (.int .i64 (nm ((c :: l).take j))) := cell_blk hf 3
                exact bodyPost_ret (v := .agg #[.int .i64 2, .int .i64 a, .string (s.extract a (a + j)), .int .i64 (nm ((c :: l).take j))]) (by simp [results, Try.results49, go_sem, d0, d1, d2, d3]) rfl ⟨rfl, hk⟩
          · have HG : Hid (isDig d = true) := Lib.hid g1
            clear g1
            have hn := spn_yes HR.out HD.out HG.out
            have HN := Lib.hid hn
            clear hn
            go_wp2
            go_roundg ((c :: l).length - (k + 1))
            case rel => exact ⟨rfl, k + 1, Nat.le_refl _, by omega, HB2.out, by go_num, HN.out⟩
            case measure => have := HK.out; have := HB2.out; omega
        · have hlt' : ¬ (a : Int) + (k : Int) < (s.size : Int) := by omega
          have HS := Lib.hid (spn_end HR.out (by have := HL.out.2; omega))
          clear hlt
          have hks' : (a : Int) + (k : Int) ≤ (s.size : Int) := by omega
          have hv : oneAt a (s.data.toList.drop a) = .agg #[.int .i64 2, .int .i64 a, .string (s.extract a (a + k)), .int .i64 (nm ((c :: l).take k))] := by
            rw [mk_part, HL.out.1]
            exact oneAt_kind (knd_dig H1.out H2.out) (by decide) (by rw [tln_dig H1.out H2.out, HS.out])
          have HV := Lib.hid hv
          have hall : ∀ d ∈ (c :: l).take k, isDig d = true := by rw [← HS.out]; exact take_all
          have HALL := Lib.hid hall
          obtain ⟨wo, rfl⟩ : ∃ wo : World, wo = wr := ⟨_, rfl⟩
          clear hv hall
          go_wp2_with fail
          go_loopg [10] (k) (fun gh iv wr => ∃ j : Nat, k - j ≤ gh ∧ j ≤ k ∧ iv = .int .i64 ((a : Int) + (j : Int)) ∧ Two w B a 2 (nm ((c :: l).take j) : Nat) wr)
          case atStart => exact ⟨0, by omega, by omega, by go_num, HT.out⟩
          case round =>
            obtain ⟨j, hgj, hj, rfl, hT⟩ := hrel
            have HGJ := Lib.hid hgj
            have hle := nm_le ((c :: l).take j)
            obtain ⟨⟨r0, r1, r2, r3⟩, ⟨e0, e1, e2, e3⟩, ⟨x0, x1, x2, x3⟩, ⟨f0, f1, f2, f3⟩⟩ := hT.facts
            have HTj := Lib.hid hT
            clear hT hgj
            by_cases hjk : j < k
            · have hjk' : (a : Int) + (j : Int) < (a : Int) + (k : Int) := by omega
              have hjs : a + j < s.size := by omega
              have hjs' : (a : Int) + (j : Int) < (s.size : Int) := by omega
              have h0j : 0 ≤ (a : Int) + (j : Int) := by omega
              have htj : ((a : Int) + (j : Int)).toNat = a + j := by omega
              obtain ⟨d, hd⟩ : ∃ d, (c :: l)[j]? = some d := ⟨_, List.getElem?_eq_getElem (by have := HK.out.1; omega)⟩
              have hsd : s[a + j] = d := by
                have : s.data.toList[a + j]? = some d := by rw [← List.getElem?_drop, HL.out.1]; exact hd
                simp [hjs] at this
                exact this
              have hdd := HALL.out d (List.mem_of_getElem? (i := j) (by rw [List.getElem?_take, if_pos hjk]; exact hd))
              have hns : nm ((c :: l).take (j + 1)) = nmStep (nm ((c :: l).take j)) d := by rw [List.take_add_one, hd]; exact nm_snoc _ _
              unfold isDig at hdd
              simp at hdd
              have h48 : 48 ≤ (s[a + j].toNat : Int) := by rw [hsd]; omega
              have h57 : (s[a + j].toNat : Int) ≤ 57 := by rw [hsd]; omega
              have HNS := Lib.hid (And.intro hns (And.intro hsd hdd))
              clear hns hsd hdd hd
              generalize hN : nm ((c :: l).take j) = N at hle HNS HTj x3
              have HN := Lib.hid hN
              clear hN
              have m1 : IntKind.i64.wrap ((N : Int) * 10) = (N : Int) * 10 := IntWalk.i64_in _ (by omega)
              have m2 : IntKind.u8.wrap ((s[a + j].toNat : Int) - 48) = (s[a + j].toNat : Int) - 48 := IntWalk.u8_in _ (by omega)
              have m4 : IntKind.i64.wrap ((s[a + j].toNat : Int) - 48) = (s[a + j].toNat : Int) - 48 := IntWalk.i64_in _ (by omega)
              have m3 : IntKind.i64.wrap ((N : Int) * 10 + ((s[a + j].toNat : Int) - 48)) = (N : Int) * 10 + ((s[a + j].toNat : Int) - 48) := IntWalk.i64_in _ (by omega)
              go_wp2_with fail
              go_still_tail 11, (by kernel_rfl)
              refine name_drew_list (w := wr) ?_
              rintro W2 K2 -
              have HT2 := Lib.hid (HTj.out.kept K2)
              clear r0 r1 r2 r3 e0 e1 e2 e3 x0 x1 x2 x3 f0 f1 f2 f3 m1 m2 m3 m4 K2
              obtain ⟨-, -, ⟨x0, x1, x2, x3⟩, ⟨f0, f1, f2, f3⟩⟩ := HT2.out.facts
              have hval : ∀ V : Int, V = (if (1099511627776 : Int) < (N : Int) * 10 + ((s[a + j].toNat : Int) - 48) then 1099511627776 else (N : Int) * 10 + ((s[a + j].toNat : Int) - 48)) → V = (nm ((c :: l).take (j + 1)) : Nat) := by
                rintro V rfl
                rw [HNS.out.1, HNS.out.2.1]
                have := HNS.out.2.2
                unfold nmStep
                split <;> omega
              have HVAL : Hid (∀ V : Int, V = (if (1099511627776 : Int) < (N : Int) * 10 + ((s[a + j].toNat : Int) - 48) then 1099511627776 else (N : Int) * 10 + ((s[a + j].toNat : Int) - 48)) → Two w B a 2 (nm ((c :: l).take (j + 1)) : Nat) (W2.setCell ⟨B + 1, 3, none⟩ (.int .i64 V))) := Lib.hid (fun V hV => by
                rw [← hval V hV]; exact HT2.out.setN hB' _)
              clear hval
              by_cases hgt : (1099511627776 : Int) < (N : Int) * 10 + ((s[a + j].toNat : Int) - 48)
              · go_wp2
                go_roundg (k - (j + 1))
                case rel => exact ⟨j + 1, Nat.le_refl _, by omega, by go_num, HVAL.out _ (by rw [if_pos hgt])⟩
                case measure => have := HGJ.out; omega
              · have hgt' : (N : Int) * 10 + ((s[a + j].toNat : Int) - 48) ≤ 1099511627776 := by omega
                go_wp2
                go_roundg (k - (j + 1))
                case rel => exact ⟨j + 1, Nat.le_refl _, by omega, by go_num, HVAL.out _ (by rw [if_neg (by omega)])⟩
                case measure => have := HGJ.out; omega
            · obtain rfl : j = k := by omega
              clear hjk
              go_wp2
              obtain ⟨hf, hk⟩ := Two.fin (HTj.out) hB' (.string (s.extract a (a + j)))
              rw [HV.out]
              generalize (((((wr.setCell ⟨B + 1, 2, none⟩ (.string (s.extract a (a + j)))).setCell ⟨B, 0, none⟩ (.int .i64 2)).setCell ⟨B, 1, none⟩ (.int .i64 a)).setCell ⟨B, 2, none⟩ (.string (s.extract a (a + j)))).setCell ⟨B, 3, none⟩ (.int .i64 (nm ((c :: l).take j)))) = W9 at hf hk ⊢
              have d0 : W9.cell? ⟨B, 0, none⟩ = some (.int .i64 2) := cell_blk hf 0
              have d1 : W9.cell? ⟨B, 1, none⟩ = some (.int .i64 a) := cell_blk hf 1
              have d2 : W9.cell? ⟨B, 2, none⟩ = some (.string (s.extract a (a + j))) := cell_blk hf 2
              have d3 : W9.cell? ⟨B, 3, none⟩ = some (.int .i64 (nm ((c :: l).take j))) := cell_blk hf 3
              exact bodyPost_ret (v := .agg #[.int .i64 2, .int .i64 a, .string (s.extract a (a + j)), .int .i64 (nm ((c :: l).take j))]) (by simp [results, Try.results49, go_sem, d0, d1, d2, d3]) rfl ⟨rfl, hk⟩
  · have H1 := Lib.hid h1
    clear h1
    have HT := Lib.hid (T0.setK hB' 1)
    obtain ⟨⟨r0, r1, r2, r3⟩, ⟨e0, e1, e2, e3⟩, ⟨x0, x1, x2, x3⟩, ⟨f0, f1, f2, f3⟩⟩ := T0.facts
    clear T0
    go_wp2_with fail
    clear r0 r1 r2 r3 e0 e1 e2 e3 x0 x1 x2 x3 f0 f1 f2 f3
    generalize (w0.setCell ⟨B + 1, 0, none⟩ (.int .i64 1)) = w1 at HT ⊢
    have l0 : 1 ≤ (c :: l).length := by simp
    have hp0 : 1 + spn isGo ((c :: l).drop 1) = spn isGo (c :: l) := by
      rw [spn_cons, if_pos (let_go H1.out)]; simp; omega
    go_loopg [6] ((c :: l).length) (fun gh ev wr => wr = w1 ∧ ∃ k : Nat, (c :: l).length - k ≤ gh ∧ 1 ≤ k ∧ k ≤ (c :: l).length ∧ ev = .int .i64 ((a : Int) + (k : Int)) ∧ k + spn isGo ((c :: l).drop k) = spn isGo (c :: l))
    case atStart => exact ⟨rfl, 1, by omega, by omega, l0, rfl, hp0⟩
    case round =>
      obtain ⟨rfl, k, hgh, hk1, hk, rfl, hr⟩ := hrel
      have HR := Lib.hid hr
      have hll := HL.out.2
      have hks : a + k ≤ s.size := by omega
      have HK := Lib.hid (And.intro hk hgh)
      clear hr hp0 hll hk l0 hgh
      by_cases hlt : a + k < s.size
      · have hlt' : (a : Int) + (k : Int) < (s.size : Int) := by omega
        have hB2 : k + 1 ≤ (c :: l).length := by have := HL.out.2; omega
        have HB2 := Lib.hid hB2
        obtain ⟨d, hd⟩ : ∃ d, (c :: l)[k]? = some d := ⟨_, List.getElem?_eq_getElem (by omega)⟩
        have hsd : s[a + k] = d := by
          have : s.data.toList[a + k]? = some d := by rw [← List.getElem?_drop, HL.out.1]; exact hd
          simp [hlt] at this
          exact this
        have HSD := Lib.hid hsd
        have HD := Lib.hid hd
        clear hd hB2 hsd
        go_wp2_with fail
        refine (refLetter_any s[a + k] _).mono ?_
        rintro e w' ⟨rfl, rfl⟩
        rw [HSD.out]
        cases g1 : isLet d
        · have G1 := Lib.hid g1
          clear g1
          go_wp2_with fail
          refine (refDigit_any s[a + k] _).mono ?_
          rintro e w' ⟨rfl, rfl⟩
          rw [HSD.out]
          cases g2 : isDig d
          · have G2 := Lib.hid g2
            clear g2
            by_cases h46 : d.toNat = 46
            · have t1 : ((s[a + k].toNat : Int) == 46) = true := by rw [HSD.out, beq_iff_eq]; omega
              have HG : Hid (isGo d = true) := Lib.hid (by unfold isGo; simp [h46])
              clear h46
              have hn := spn_yes HR.out HD.out HG.out
              have HN := Lib.hid hn
              clear hn
              go_wp2
              go_roundg ((c :: l).length - (k + 1))
              case rel => exact ⟨rfl, k + 1, Nat.le_refl _, by omega, HB2.out, by go_num, HN.out⟩
              case measure => have := HK.out; have := HB2.out; omega
            · have t1 : ((s[a + k].toNat : Int) == 46) = false := by rw [HSD.out, beq_eq_false_iff_ne]; omega
              by_cases h45 : d.toNat = 45
              · have t2 : ((s[a + k].toNat : Int) == 45) = true := by rw [HSD.out, beq_iff_eq]; omega
                have HG : Hid (isGo d = true) := Lib.hid (by unfold isGo; simp [h45])
                clear h45 h46
                have hn := spn_yes HR.out HD.out HG.out
                have HN := Lib.hid hn
                clear hn
                go_wp2
                go_roundg ((c :: l).length - (k + 1))
                case rel => exact ⟨rfl, k + 1, Nat.le_refl _, by omega, HB2.out, by go_num, HN.out⟩
                case measure => have := HK.out; have := HB2.out; omega
              · have t2 : ((s[a + k].toNat : Int) == 45) = false := by rw [HSD.out, beq_eq_false_iff_ne]; omega
                have hgo : isGo d = false := by unfold isGo; rw [G1.out, G2.out, show (d.toNat == 46) = false from by rw [beq_eq_false_iff_ne]; exact h46, show (d.toNat == 45) = false from by rw [beq_eq_false_iff_ne]; exact h45]; rfl
                have HS := Lib.hid (spn_no HR.out HD.out hgo)
                clear hgo h45 h46
                have hv : oneAt a (s.data.toList.drop a) = .agg #[.int .i64 1, .int .i64 a, .string (s.extract a (a + k)), .int .i64 0] := by
                  rw [mk_part, HL.out.1]
                  exact oneAt_kind (knd_let H1.out) (by decide) (by rw [tln_let H1.out, HS.out])
                have HV := Lib.hid hv
                have hks' : (a : Int) + (k : Int) ≤ (s.size : Int) := by omega
                obtain ⟨⟨r0, r1, r2, r3⟩, ⟨e0, e1, e2, e3⟩, ⟨x0, x1, x2, x3⟩, ⟨f0, f1, f2, f3⟩⟩ := HT.out.facts
                clear hv
                go_wp2
                obtain ⟨hf, hk⟩ := Two.fin (HT.out) hB' (.string (s.extract a (a + k)))
                rw [HV.out]
                generalize (((((wr.setCell ⟨B + 1, 2, none⟩ (.string (s.extract a (a + k)))).setCell ⟨B, 0, none⟩ (.int .i64 1)).setCell ⟨B, 1, none⟩ (.int .i64 a)).setCell ⟨B, 2, none⟩ (.string (s.extract a (a + k)))).setCell ⟨B, 3, none⟩ (.int .i64 0)) = W9 at hf hk ⊢
                have d0 : W9.cell? ⟨B, 0, none⟩ = some (.int .i64 1) := cell_blk hf 0
                have d1 : W9.cell? ⟨B, 1, none⟩ = some (.int .i64 a) := cell_blk hf 1
                have d2 : W9.cell? ⟨B, 2, none⟩ = some (.string (s.extract a (a + k))) := cell_blk hf 2
                have d3 : W9.cell? ⟨B, 3, none⟩ = some (.int .i64 0) := cell_blk hf 3
                exact bodyPost_ret (v := .agg #[.int .i64 1, .int .i64 a, .string (s.extract a (a + k)), .int .i64 0]) (by simp [results, Try.results49, go_sem, d0, d1, d2, d3]) rfl ⟨rfl, hk⟩
          · have HG : Hid (isGo d = true) := Lib.hid (by unfold isGo; simp [g2])
            clear g2
            have hn := spn_yes HR.out HD.out HG.out
            have HN := Lib.hid hn
            clear hn
            go_wp2
            go_roundg ((c :: l).length - (k + 1))
            case rel => exact ⟨rfl, k + 1, Nat.le_refl _, by omega, HB2.out, by go_num, HN.out⟩
            case measure => have := HK.out; have := HB2.out; omega
        · have HG : Hid (isGo d = true) := Lib.hid (let_go g1)
          clear g1
          have hn := spn_yes HR.out HD.out HG.out
          have HN := Lib.hid hn
          clear hn
          go_wp2
          go_roundg ((c :: l).length - (k + 1))
          case rel => exact ⟨rfl, k + 1, Nat.le_refl _, by omega, HB2.out, by go_num, HN.out⟩
          case measure => have := HK.out; have := HB2.out; omega
      · have hlt' : ¬ (a : Int) + (k : Int) < (s.size : Int) := by omega
        have HS := Lib.hid (spn_end HR.out (by have := HL.out.2; omega))
        clear hlt
        have hv : oneAt a (s.data.toList.drop a) = .agg #[.int .i64 1, .int .i64 a, .string (s.extract a (a + k)), .int .i64 0] := by
          rw [mk_part, HL.out.1]
          exact oneAt_kind (knd_let H1.out) (by decide) (by rw [tln_let H1.out, HS.out])
        have HV := Lib.hid hv
        have hks' : (a : Int) + (k : Int) ≤ (s.size : Int) := by omega
        obtain ⟨⟨r0, r1, r2, r3⟩, ⟨e0, e1, e2, e3⟩, ⟨x0, x1, x2, x3⟩, ⟨f0, f1, f2, f3⟩⟩ := HT.out.facts
        clear hv
        go_wp2
        obtain ⟨hf, hk⟩ := Two.fin (HT.out) hB' (.string (s.extract a (a + k)))
        rw [HV.out]
        generalize (((((wr.setCell ⟨B + 1, 2, none⟩ (.string (s.extract a (a + k)))).setCell ⟨B, 0, none⟩ (.int .i64 1)).setCell ⟨B, 1, none⟩ (.int .i64 a)).setCell ⟨B, 2, none⟩ (.string (s.extract a (a + k)))).setCell ⟨B, 3, none⟩ (.int .i64 0)) = W9 at hf hk ⊢
        have d0 : W9.cell? ⟨B, 0, none⟩ = some (.int .i64 1) := cell_blk hf 0
        have d1 : W9.cell? ⟨B, 1, none⟩ = some (.int .i64 a) := cell_blk hf 1
        have d2 : W9.cell? ⟨B, 2, none⟩ = some (.string (s.extract a (a + k))) := cell_blk hf 2
        have d3 : W9.cell? ⟨B, 3, none⟩ = some (.int .i64 0) := cell_blk hf 3
        exact bodyPost_ret (v := .agg #[.int .i64 1, .int .i64 a, .string (s.extract a (a + k)), .int .i64 0]) (by simp [results, Try.results49, go_sem, d0, d1, d2, d3]) rfl ⟨rfl, hk⟩
end Go.Proofs.Ytcdmgalhboijcaa.Sc
/- The document's Word: whether a text is a word. -/
namespace Go.Proofs.Ytcdmgalhboijcaa.Sc
open Go.RowKit Go.Shelf

theorem refWord_any (s : ByteArray) (hs : s.size ≤ 9223372036854775807) (w : World) :
    Calls Try.prog 42 #[.string s] w fun e w' => e = .returned (.bool (wordL s.data.toList)) ∧ Keeps [] w w' := by
  cases hl : s.data.toList with
  | nil =>
    have h0 : s.toList = [] := by rw [Lib.toList_data]; exact hl
    have h1 : s.toList.isEmpty = true := by rw [h0]; rfl
    have h2 : (s.toList == []) = true := by rw [h0]; rfl
    clear h0
    go_enter Try.func42, Try.ntmps42
    go_wp2
    go_ret
    exact ⟨rfl, Keeps.refl _ _⟩
  | cons c l =>
    have hpos : 0 < s.size := by
      have : s.data.toList.length = s.size := by simp
      rw [hl] at this
      simp at this
      omega
    have hne : s.toList.isEmpty = false := by rw [Lib.toList_data, hl]; rfl
    have hne2 : (s.toList == []) = false := by rw [Lib.toList_data, hl]; rfl
    have H := refOne_any s hs 0 hpos
    have hd : s.data.toList.drop 0 = c :: l := by rw [hl]; rfl
    rw [hd] at H
    have HL := Lib.hid hl
    have HONE := Lib.hid H
    clear hl H hd hs
    cases h1 : isLet c
    · have hv : wordL (c :: l) = false := by simp [wordL, h1]
      have hk : knd c ≠ 1 := by
        unfold knd
        rw [h1]
        simp
        split <;> (try omega)
        split <;> (try omega)
        split <;> omega
      have ho : ∃ kd at_ tx nu, oneAt 0 (c :: l) = .agg #[.int .i64 kd, .int .i64 at_, .string tx, .int .i64 nu] ∧ (kd == 1) = false := by
        unfold oneAt
        split
        · exact ⟨_, _, _, _, rfl, rfl⟩
        · refine ⟨_, _, _, _, rfl, ?_⟩
          rw [beq_eq_false_iff_ne]
          show ((knd c : Nat) : Int) ≠ 1
          omega
      obtain ⟨kd, at_, tx, nu, ho, hkd⟩ := ho
      rw [ho] at HONE
      have HV := Lib.hid hv
      clear hv hk ho h1
      go_enter Try.func42, Try.ntmps42
      go_wp2_with fail
      refine (HONE.out _).mono ?_
      rintro e w' ⟨rfl, K⟩
      go_wp2
      go_ret
      exact ⟨by rw [HV.out]; simp, K.alloc _⟩
    · have HV : Hid (wordL (c :: l) = decide (spn isGo (c :: l) = s.size)) := Lib.hid (by
        have : s.size = (c :: l).length := by rw [← HL.out]; simp
        rw [this, Bool.eq_iff_iff]
        simp [wordL, h1])
      have ho := oneAt_kind (a := 0) (l := l) (knd_let h1) (by decide) (tln_let (l := l) h1)
      rw [ho] at HONE
      clear ho
      obtain ⟨n, hn⟩ : ∃ n, n = spn isGo (c :: l) := ⟨_, rfl⟩
      rw [← hn] at HONE HV
      have hnl := spn_le isGo (c :: l)
      rw [← hn] at hnl
      have hsz : s.size = (c :: l).length := by rw [← HL.out]; simp
      obtain ⟨T, hT⟩ : ∃ T : ByteArray, T = ⟨((c :: l).take n).toArray⟩ := ⟨_, rfl⟩
      rw [← hT] at HONE
      have hTl : (T.toList == s.toList) = decide (n = s.size) := by
        rw [Lib.toList_data, Lib.toList_data, HL.out, hT, Bool.eq_iff_iff]
        simp only [beq_iff_eq, decide_eq_true_eq]
        simp only [List.length_cons] at hnl hsz
        constructor
        · intro h
          have := congrArg List.length h
          simp only [List.length_take, List.length_cons] at this
          omega
        · intro h
          exact List.take_of_length_le (by simp; omega)
      have hk1 : (((1 : Nat) : Int) == 1) = true := rfl
      clear hn h1 hnl hsz hT
      go_enter Try.func42, Try.ntmps42
      go_wp2_with fail
      refine (HONE.out _).mono ?_
      rintro e w' ⟨rfl, K⟩
      go_wp2
      all_goals
        go_ret
        exact ⟨by rw [HV.out]; simp [hTl], K.alloc _⟩
end Go.Proofs.Ytcdmgalhboijcaa.Sc
