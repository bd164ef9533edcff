/- What the printed functions of scan's laws come to: plain. -/
import Derived.Test.YtehlabphhcdooaaS2x2
namespace Go.Proofs.Ytehlabphhcdooaa.PureS2
open Go.RowKit Go.Proofs.Ytehlabphhcdooaa.S2 Go.Proofs.YtehlabphhcdooaaW.PrintWords Go.Proofs.YtehlabphhcdooaaW.PrintLast Go.Proofs.Ytehlabphhcdooaa.Sc

theorem awake_some : cadencylaw03_awake.f = some true := by decide +kernel

def sh (s : ByteArray) : ByteArray := if s.size > 100 then s.extract 0 100 else s
theorem sh_size (s : ByteArray) : (sh s).size ≤ 100 := by
  unfold sh
  split
  · simp; omega
  · omega
theorem short_some (s : ByteArray) : cadencylaw03_short.f s = some (sh s) := by
  unfold cadencylaw03_short.f sh
  by_cases h : s.size > 100
  · rw [if_pos (by omega), if_pos (by decide), if_pos (by omega), if_pos h]
  · rw [if_neg (by omega), if_neg h]

theorem one_some (s : ByteArray) (hs : s.size ≤ 1000000) (a : Nat) (ha : a < s.size) : cadencyref03_one.f s (a : Int) = some ((((tk0 a (s.data.toList.drop a)).kind : Nat) : Int), (((tk0 a (s.data.toList.drop a)).at_ : Nat) : Int), (⟨(tk0 a (s.data.toList.drop a)).text.toArray⟩ : ByteArray), (((tk0 a (s.data.toList.drop a)).num : Nat) : Int)) := by
  unfold cadencyref03_one.f
  rw [if_pos ⟨hs, by omega, by omega⟩]
  simp

theorem refWord_some (s : ByteArray) (hs : s.size ≤ 1000000) : cadencyref03_Word.f s = some (wordL s.data.toList) := by
  unfold cadencyref03_Word.f
  have htl : s.toList = s.data.toList := Lib.toList_data s
  cases hl : s.data.toList with
  | nil => rw [if_pos (by rw [htl, hl])]; rfl
  | cons c l =>
    have hL : s.data.toList.length = s.size := by simp
    rw [if_neg (by rw [htl, hl]; simp)]
    have h1 := one_some s hs 0 (by rw [← hL, hl]; simp)
    simp only [List.drop_zero, hl] at h1
    rw [show ((0 : Nat) : Int) = 0 from rfl] at h1
    rw [h1]
    simp only [Option.bind_some]
    by_cases hlet : isLet c = true
    · have hk := knd_let hlet
      have e : tk0 0 (c :: l) = tkOf 0 (c :: l) := by unfold tk0; rw [if_neg (by simp [tkOf, hk])]
      rw [e]
      have e2 : tkOf 0 (c :: l) = ⟨1, 0, (c :: l).take (spn isGo (c :: l)), 0⟩ := by simp only [tkOf, hk, tln_let hlet]; rfl
      rw [e2, if_pos (by simp)]
      congr 1
      have ht : (⟨((c :: l).take (spn isGo (c :: l))).toArray⟩ : ByteArray).toList = (c :: l).take (spn isGo (c :: l)) := by rw [Lib.toList_data]
      rw [ht, htl, hl, Bool.eq_iff_iff]
      simp only [beq_iff_eq, wordL, hlet, Bool.true_and]
      have hsp := spn_le isGo (c :: l)
      constructor
      · intro h
        have := congrArg List.length h
        rw [List.length_take] at this
        omega
      · intro h
        exact List.take_of_length_le (by omega)
    · have hlf : isLet c = false := by simpa using hlet
      have hk : knd c ≠ 1 := by unfold knd; rw [hlf]; simp; split; (· omega); (split; (· omega); (split <;> omega))
      have e : (tk0 0 (c :: l)).kind ≠ 1 := by
        unfold tk0
        split
        · simp
        · simpa [tkOf] using hk
      rw [if_neg (by omega)]
      simp [wordL, hlf]

end Go.Proofs.Ytehlabphhcdooaa.PureS2
