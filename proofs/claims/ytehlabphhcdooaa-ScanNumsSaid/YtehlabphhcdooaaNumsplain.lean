/- Numbers as tokens: plain lemmas. -/
import Derived.Test.YtehlabphhcdooaaPureplain
import Derived.Laws.Bits64b
set_option linter.unusedVariables false
set_option linter.unusedSimpArgs false
namespace Go.Proofs.Ytehlabphhcdooaa.Sc

theorem mask50 (a : Int) : ∃ m : Nat, m < 1125899906842624 ∧ Go.bits .and .i64 a 1125899906842623 = (m : Int) := by
  refine ⟨((BitVec.ofInt 64 a) &&& (BitVec.ofInt 64 1125899906842623)).toNat, ?_, ?_⟩
  · rw [BitVec.toNat_and]
    exact Nat.and_lt_two_pow (n := 50) _ (by decide)
  · have h : ((BitVec.ofInt 64 a) &&& (BitVec.ofInt 64 1125899906842623)).toNat < 2 ^ 50 := by
      rw [BitVec.toNat_and]
      exact Nat.and_lt_two_pow (n := 50) _ (by decide)
    show IntKind.i64.wrap (((BitVec.ofInt 64 a) &&& (BitVec.ofInt 64 1125899906842623)).toNat : Int) = _
    generalize ((BitVec.ofInt 64 a) &&& (BitVec.ofInt 64 1125899906842623)).toNat = m at h
    rw [IntKind.wrap_i64]
    omega

/-- The value of digits, behind a value. -/
def valL (n : Nat) (l : List UInt8) : Nat := l.foldl (fun n c => n * 10 + (c.toNat - 48)) n
theorem valL_cons (n : Nat) (c : UInt8) (l : List UInt8) : valL n (c :: l) = valL (n * 10 + (c.toNat - 48)) l := by unfold valL; rw [List.foldl_cons]
theorem valL_zero (l : List UInt8) : valL 0 (48 :: l) = valL 0 l := by rw [valL_cons, show 0 * 10 + ((48 : UInt8).toNat - 48) = 0 from by decide]
theorem nm_val (l : List UInt8) : nm l = min (valL 0 l) 1099511627776 := by
  have : ∀ (l : List UInt8) (n : Nat), l.foldl nmStep (min n 1099511627776) = min (valL n l) 1099511627776 := by
    intro l
    induction l with
    | nil => intro n; rfl
    | cons c l ih =>
      intro n
      rw [valL_cons, ← ih, List.foldl_cons]
      congr 1
      unfold nmStep
      omega
  have h := this l 0
  rw [show min 0 1099511627776 = 0 from rfl] at h
  exact h

theorem dig_let {c : UInt8} (h : isDig c = true) : isLet c = false := by
  have : ∀ n : Fin 256, isDig (UInt8.ofNat n.val) = true → isLet (UInt8.ofNat n.val) = false := by decide +kernel
  have hc := this ⟨c.toNat, c.toNat_lt⟩
  simp at hc
  exact hc h
theorem skp_dig {c : UInt8} {l : List UInt8} (h : isDig c = true) : skp false (c :: l) = 0 := by
  unfold isDig at h
  simp at h
  exact skp_other (by omega) (by omega) (by omega)
theorem skp_dig' {l : List UInt8} (h : ∀ d ∈ l, isDig d = true) : skp false l = 0 := by
  cases l with
  | nil => rfl
  | cons c l => exact skp_dig (h c (by simp))
/-- A number, and what stands behind it. -/
theorem rst_num (a : Nat) {l r : List UInt8} (h0 : l ≠ []) (hg : ∀ d ∈ l, isDig d = true) (hr : spn isDig r = 0) :
    rst a (l ++ r) = (⟨2, a, l, nm l⟩ :: (rst (a + (l.length + skp false r)) (r.drop (skp false r))).1, (rst (a + (l.length + skp false r)) (r.drop (skp false r))).2) := by
  cases l with
  | nil => exact absurd rfl h0
  | cons c m =>
    have hd := hg c (by simp)
    have hl := dig_let hd
    have hs := spn_app (m := r) hg
    rw [hr] at hs
    have ht : tln ((c :: m) ++ r) = (c :: m).length := by rw [List.cons_append, tln_dig hl hd, ← List.cons_append, hs]; rfl
    have hk := knd_dig hl hd
    rw [List.cons_append, rst_some a (by omega)]
    have hn : nxt (c :: (m ++ r)) = (c :: m).length + skp false r := by
      unfold nxt
      rw [← List.cons_append, ht, List.drop_left]
    have htk : tkOf a (c :: (m ++ r)) = ⟨2, a, c :: m, nm (c :: m)⟩ := by
      simp only [tkOf, hk]
      rw [← List.cons_append, ht, List.take_left]
      rfl
    rw [hn, htk]
    rw [show (c :: (m ++ r)).drop ((c :: m).length + skp false r) = r.drop (skp false r) from by rw [← List.cons_append, ← List.drop_drop, List.drop_left]]
/-- A sign of equality, and what stands behind it. -/
theorem rst_eq (a : Nat) (r : List UInt8) :
    rst a (61 :: r) = (⟨3, a, [61], 0⟩ :: (rst (a + (1 + skp false r)) (r.drop (skp false r))).1, (rst (a + (1 + skp false r)) (r.drop (skp false r))).2) := by
  have hk : knd 61 = 3 := by decide
  have ht : tln (61 :: r) = 1 := tln_one (by decide) (by decide)
  rw [rst_some a (by omega)]
  have hn : nxt (61 :: r) = 1 + skp false r := by unfold nxt; rw [ht]; rfl
  have htk : tkOf a (61 :: r) = ⟨3, a, [61], 0⟩ := by simp only [tkOf, hk, ht]; rfl
  rw [hn, htk, Nat.add_comm 1, List.drop_succ_cons]
theorem lex_num {l : List UInt8} (h0 : l ≠ []) (hg : ∀ d ∈ l, isDig d = true) : lexL l = ([⟨2, 0, l, nm l⟩], l.length, 0) := by
  have h := rst_num 0 (r := []) h0 hg rfl
  rw [List.append_nil] at h
  have he : eachL l = ([⟨2, 0, l, nm l⟩], l.length) := by
    rw [eachL_eq, skp_dig' hg, List.drop_zero, h]
    simp [skp, rst_nil]
  unfold lexL
  rw [he]
  simp
theorem lex_eq_num {l : List UInt8} (h0 : l ≠ []) (hg : ∀ d ∈ l, isDig d = true) : lexL (61 :: (l ++ [61])) = ([⟨3, 0, [61], 0⟩, ⟨2, 1, l, nm l⟩, ⟨3, 1 + l.length, [61], 0⟩], l.length + 2, 0) := by
  have h := rst_num 1 (r := [61]) h0 hg (by decide)
  have hsk : skp false (l ++ [61]) = 0 := by
    cases l with
    | nil => exact absurd rfl h0
    | cons c m => exact skp_dig (hg c (by simp))
  have hs1 : skp false [61] = 0 := by decide
  have he : eachL (61 :: (l ++ [61])) = ([⟨3, 0, [61], 0⟩, ⟨2, 1, l, nm l⟩, ⟨3, 1 + l.length, [61], 0⟩], l.length + 2) := by
    rw [eachL_eq, show skp false (61 :: (l ++ [61])) = 0 from skp_other (by decide) (by decide) (by decide), List.drop_zero, rst_eq, hsk, List.drop_zero]
    rw [show 0 + (1 + 0) = 1 from rfl, h, hs1, List.drop_zero, rst_eq]
    simp [skp, rst_nil]
    omega
  unfold lexL
  rw [he]
  simp
end Go.Proofs.Ytehlabphhcdooaa.Sc
