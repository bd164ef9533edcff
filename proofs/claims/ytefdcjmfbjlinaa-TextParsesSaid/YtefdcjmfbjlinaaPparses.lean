/- TextParses, the plain part. -/
import Derived.Test.YtefdcjmfbjlinaaPtext
import Derived.Test.YtefdcjmfbjlinaaAx10
set_option linter.unusedVariables false
set_option linter.unusedSimpArgs false
namespace Go.Proofs.Ytefdcjmfbjlinaa.A
open Go.RowKit Go.Proofs.YtefdcjmfbjlinaaW.PrintWords Go.Proofs.YtefdcjmfbjlinaaW.PrintLast Go.Proofs.YtefdcjmfbjlinaaW.PrintMore Go.Proofs.Ytefdcjmfbjlinaa.Sc

theorem awake_some : cadencylaw05_awake.f = some true := by decide +kernel
theorem same_go (l : List S33) (hl : l.length ≤ 1000000) : ∀ (d i : Nat), l.length - i = d → i ≤ l.length → Ev (fun k => cadencyref05_Same.l0 k l l (i : Int)) true := by
  intro d
  induction d with
  | zero =>
    intro i hd hi
    refine Ev.step (f := fun _ => some true) (fun k => ?_) (Ev.now _)
    simp only [cadencyref05_Same.l0]
    rw [if_neg (by omega)]
  | succ d ih =>
    intro i hd hi
    have hlt : i < l.length := by omega
    refine Ev.step (f := fun k => cadencyref05_Same.l0 k l l ((i + 1 : Nat) : Int)) (fun k => ?_) (ih (i + 1) (by omega) (by omega))
    simp only [cadencyref05_Same.l0]
    rw [if_pos (by omega), if_pos (by omega), if_pos (by omega), if_neg (by simp), show wrap64 ((i : Int) + 1) = ((i + 1 : Nat) : Int) by unfold wrap64; omega]
theorem same_some (l : List S33) (hl : l.length ≤ 1000000) : Ev (fun k => cadencyref05_Same.f k l l) true := by
  refine Ev.congr (f := fun k => cadencyref05_Same.l0 k l l 0) (fun k => ?_) (same_go l hl l.length 0 (by omega) (by omega))
  unfold cadencyref05_Same.f
  rw [if_pos rfl]
theorem toT_tskS (l : List Tsk) : (l.map tskS).map toT = l := by
  rw [List.map_map]
  conv => rhs; rw [← List.map_id l]
  rfl
theorem rd_len (e : Nat) : ∀ (n : Nat) (l : List Tk), l.length ≤ n → (rd e l).1.length ≤ l.length
  | 0, l, h => by
    have : l = [] := List.eq_nil_of_length_eq_zero (by omega)
    subst this
    simp [rd_nil]
  | n + 1, [], _ => by simp [rd_nil]
  | n + 1, t :: l, h => by
    simp at h
    by_cases hk : t.kind = 4
    · rw [rd_line e hk]
      have := rd_len e n l h
      simp; omega
    · cases ht : taskL (t :: l) with
      | mk o r =>
        cases o with
        | none => rw [rd_none e hk ht]; simp
        | some x =>
          rw [rd_some e hk ht]
          have hl := taskL_some ht
          have := rd_len e n r (by omega)
          split <;> simp <;> omega
theorem readT_len (L : List UInt8) : (readT L).1.length ≤ L.length := by
  unfold readT
  have := (lexL_toks L).1
  split
  · have h2 := rd_len L.length _ (lexL L).1 (Nat.le_refl _)
    omega
  · simp
theorem refParse_some (s : ByteArray) (hs : s.size ≤ 100000) : Ev (fun k => cadencyref05_Parse.f k s) ((parseT s.data.toList).1.map tskS, (parseT s.data.toList).2.1, (parseT s.data.toList).2.2) := by
  have hL : s.data.toList.length = s.size := by simp
  have hsm := readT_small s.data.toList
  have hc := checkAll_some ((readT s.data.toList).1.map tskS) (fun x hx => by
    obtain ⟨y, hy, rfl⟩ := List.mem_map.1 hx
    have := (hsm y hy).nm
    show y.nm.size ≤ 1000000
    omega)
  rw [toT_tskS] at hc
  obtain ⟨K, hK⟩ := hc
  refine ⟨K, fun k hk => ?_⟩
  have hK := hK k hk
  dsimp only at hK ⊢
  unfold cadencyref05_Parse.f cadencyref05_Read.f text_Read.f parseT
  rw [if_pos hs, Option.bind_some]
  simp only
  by_cases he : (readT s.data.toList).2.2 = 0
  · by_cases h2 : (checkAllL (readT s.data.toList).1).2 = 0
    · simp [he, hK, h2]
    · simp [he, hK, h2]
  · rw [if_neg (by omega), if_pos he]
    have : (readT s.data.toList).1 = [] := by
      revert he
      unfold readT
      split
      · intro h
        have := joinR_nil_rd s.data.toList.length _ (lexL s.data.toList).1 (Nat.le_refl _)
        rw [← this]
        unfold joinR
        rw [← this] at h
        unfold joinR at h
        split
        · rename_i h3
          rw [if_pos h3] at h
          exact absurd h3 h
        · rfl
      · intro _; rfl
    rw [this]
theorem parses_some (s : ByteArray) (hs : s.size ≤ 100000) : Ev (fun k => cadencylaw05_parses.f k s) true := by
  have hL : s.data.toList.length = s.size := by simp
  have hrl := readT_len s.data.toList
  have hpl : (parseT s.data.toList).1.length ≤ s.size := by
    unfold parseT
    split
    · simp
    · split
      · simp
      · simp only; omega
  obtain ⟨K1, k1⟩ := refParse_some s hs
  obtain ⟨K2, k2⟩ := same_some ((readT s.data.toList).1.map tskS) (by simp; omega)
  obtain ⟨K3, k3⟩ := same_some ((parseT s.data.toList).1.map tskS) (by simp; omega)
  refine ⟨K1 + K2 + K3, fun k hk => ?_⟩
  have k1 := k1 k (by omega)
  have k2 := k2 k (by omega)
  have k3 := k3 k (by omega)
  dsimp only at k1 k2 k3 ⊢
  unfold cadencylaw05_parses.f cadencyref05_Read.f text_Read.f text_Parse.f
  rw [if_pos hs, if_pos hs]
  simp only [Option.bind_some, k1, k2, k3, if_true, beq_self_eq_true]
theorem textParses_some (s : ByteArray) (l : List S43) (q0 q1 q2 : Int) : ∃ k, cadencylaw05_TextParses.f k s l q0 q1 q2 = some true := by
  obtain ⟨K1, k1⟩ := set_some_m 6 (by omega) (by omega) l q1
  obtain ⟨p, hp⟩ : ∃ p, setOf (l.take 6) q1 = p := ⟨_, rfl⟩
  have hfew := few_set (l.take 6) q1
  have hsz := set_print (l.take 6) q1
  have hlen := (setOf_length (l.take 6) q1).2
  rw [hp] at k1 hfew hsz hlen
  obtain ⟨K2, k2⟩ := print_some (n := 2) (by omega) p hfew (by omega)
  have hsh := sh_size s
  obtain ⟨r1, e1, z1⟩ := spoilt_some (printB p) (by omega) q0 q1 q2
  obtain ⟨r2, e2, z2⟩ := spoilt_some (printB p ++ sh s) (by rw [ByteArray.size_append]; omega) q0 q1 q2
  rw [ByteArray.size_append] at z2
  obtain ⟨K3, k3⟩ := parses_some (sh s) (by omega)
  obtain ⟨K4, k4⟩ := parses_some (printB p) (by omega)
  obtain ⟨K5, k5⟩ := parses_some r1 (by omega)
  obtain ⟨K6, k6⟩ := parses_some r2 (by omega)
  refine ⟨K1 + K2 + K3 + K4 + K5 + K6, ?_⟩
  obtain ⟨k, hk⟩ : ∃ k, k = K1 + K2 + K3 + K4 + K5 + K6 := ⟨_, rfl⟩
  rw [← hk]
  have k1 := k1 k (by omega)
  have k2 := k2 k (by omega)
  have k3 := k3 k (by omega)
  have k4 := k4 k (by omega)
  have k5 := k5 k (by omega)
  have k6 := k6 k (by omega)
  dsimp only at k1 k2 k3 k4 k5 k6
  rw [show ((6 : Nat) : Int) = 6 from rfl] at k1
  unfold cadencylaw05_TextParses.f
  rw [awake_some]
  simp only [Option.bind_some, k1, k2, k3, k4, k5, k6, if_true, short_some, e1, e2]
  rw [if_pos (by omega)]
end Go.Proofs.Ytefdcjmfbjlinaa.A
