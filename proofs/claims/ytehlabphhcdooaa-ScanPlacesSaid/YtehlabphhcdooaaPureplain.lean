/- Words and numbers as tokens: plain lemmas. -/
import Derived.Test.YtehlabphhcdooaaRefone
import Derived.Test.YtehlabphhcdooaaLex2
namespace Go.Proofs.Ytehlabphhcdooaa.Sc

theorem isGo_int (c : UInt8) : isGo c = decide ((97 ≤ (c.toNat : Int) ∧ (c.toNat : Int) ≤ 122) ∨ (65 ≤ (c.toNat : Int) ∧ (c.toNat : Int) ≤ 90) ∨ (48 ≤ (c.toNat : Int) ∧ (c.toNat : Int) ≤ 57) ∨ (c.toNat : Int) = 95 ∨ (c.toNat : Int) = 46 ∨ (c.toNat : Int) = 45) := by
  unfold isGo
  rw [refLet_int, isDig_int, Bool.eq_iff_iff]
  simp
  omega

theorem spn_all {p : UInt8 → Bool} : ∀ {l : List UInt8}, (∀ c ∈ l, p c = true) → spn p l = l.length
  | [], _ => rfl
  | c :: l, h => by
    rw [spn_cons, if_pos (h c (by simp)), spn_all (fun d hd => h d (by simp [hd]))]
    rfl
theorem spn_app {p : UInt8 → Bool} : ∀ {l m : List UInt8}, (∀ c ∈ l, p c = true) → spn p (l ++ m) = l.length + spn p m
  | [], m, _ => by simp
  | c :: l, m, h => by
    rw [List.cons_append, spn_cons, if_pos (h c (by simp)), spn_app (fun d hd => h d (by simp [hd]))]
    simp; omega
theorem word_spec {l : List UInt8} (h : wordL l = true) : ∃ c m, l = c :: m ∧ isLet c = true ∧ ∀ d ∈ l, isGo d = true := by
  cases l with
  | nil => simp [wordL] at h
  | cons c m =>
    simp [wordL] at h
    refine ⟨c, m, rfl, h.1, ?_⟩
    intro d hd
    have := take_all (p := isGo) (l := c :: m) d (by rw [h.2, ← List.length_cons (a := c), List.take_length]; exact hd)
    exact this
theorem skp_let {c : UInt8} {l : List UInt8} (h : isLet c = true) : skp false (c :: l) = 0 := by
  have : ∀ n : Fin 256, isLet (UInt8.ofNat n.val) = true → (UInt8.ofNat n.val).toNat ≠ 32 ∧ (UInt8.ofNat n.val).toNat ≠ 9 ∧ (UInt8.ofNat n.val).toNat ≠ 35 := by decide +kernel
  have hc := this ⟨c.toNat, c.toNat_lt⟩
  simp at hc
  obtain ⟨h1, h2, h3⟩ := hc h
  exact skp_other h1 h2 h3
/-- A word, and what stands behind it. -/
theorem each_word {c : UInt8} {m r : List UInt8} (hl : isLet c = true) (hg : ∀ d ∈ c :: m, isGo d = true) (hr : spn isGo r = 0) :
    eachL ((c :: m) ++ r) = (⟨1, 0, c :: m, 0⟩ :: (rst ((c :: m).length + skp false r) (r.drop (skp false r))).1, (rst ((c :: m).length + skp false r) (r.drop (skp false r))).2) := by
  have hs := spn_app (m := r) hg
  rw [hr] at hs
  have ht : tln ((c :: m) ++ r) = (c :: m).length := by rw [List.cons_append, tln_let hl, ← List.cons_append, hs]; rfl
  have hk := knd_let hl
  rw [eachL_eq, List.cons_append, skp_let hl, List.drop_zero, rst_some 0 (by omega)]
  have hn : nxt (c :: (m ++ r)) = (c :: m).length + skp false r := by
    unfold nxt
    rw [← List.cons_append, ht, List.drop_left]
  have htk : tkOf 0 (c :: (m ++ r)) = ⟨1, 0, c :: m, 0⟩ := by
    simp only [tkOf, hk]
    rw [← List.cons_append, ht, List.take_left]
    rfl
  rw [hn, htk, Nat.zero_add]
  rw [show (c :: (m ++ r)).drop ((c :: m).length + skp false r) = r.drop (skp false r) from by rw [← List.cons_append, ← List.drop_drop, List.drop_left]]
theorem each_word_alone {c : UInt8} {m : List UInt8} (hl : isLet c = true) (hg : ∀ d ∈ c :: m, isGo d = true) : eachL (c :: m) = ([⟨1, 0, c :: m, 0⟩], (c :: m).length) := by
  have := each_word (r := []) hl hg rfl
  rw [List.append_nil] at this
  rw [this]
  simp [skp, rst_nil]
end Go.Proofs.Ytehlabphhcdooaa.Sc
