/- ScanTells, the plain part: what is told is the document's. -/
import Derived.Test.YtehlabphhcdooaaSx3
import Derived.Test.YtehlabphhcdooaaPtells
namespace Go.Proofs.Ytehlabphhcdooaa.Pure
open Go.RowKit Go.Proofs.Ytehlabphhcdooaa.S Go.Proofs.YtehlabphhcdooaaW.PrintWords Go.Proofs.YtehlabphhcdooaaW.PrintLast Go.Proofs.Ytehlabphhcdooaa.Sc

theorem refWord_some (s : ByteArray) (hs : s.size ≤ 1000000) : cadencyref03_Word.f s = some (wordL s.data.toList) := by
  unfold cadencyref03_Word.f
  have htl : s.toList = s.data.toList := Lib.toList_data s
  cases hl : s.data.toList with
  | nil => rw [if_pos (by rw [htl, hl])]; rfl
  | cons c l =>
    have hL : s.data.toList.length = s.size := by simp
    rw [if_neg (by rw [htl, hl]; simp)]
    have h1 := one_some s hs 0 (by rw [← hL, hl]; simp)
    simp only [List.drop_zero, hl] at h1
    rw [show ((0 : Nat) : Int) = 0 from rfl] at h1
    rw [h1]
    simp only [Option.bind_some]
    by_cases hlet : isLet c = true
    · have hk := knd_let hlet
      have e : tk0 0 (c :: l) = tkOf 0 (c :: l) := by unfold tk0; rw [if_neg (by simp [tkOf, hk])]
      rw [e]
      have e2 : tkOf 0 (c :: l) = ⟨1, 0, (c :: l).take (spn isGo (c :: l)), 0⟩ := by simp only [tkOf, hk, tln_let hlet]; rfl
      rw [e2, if_pos (by simp)]
      congr 1
      have ht : (⟨((c :: l).take (spn isGo (c :: l))).toArray⟩ : ByteArray).toList = (c :: l).take (spn isGo (c :: l)) := by rw [Lib.toList_data]
      rw [ht, htl, hl, Bool.eq_iff_iff]
      simp only [beq_iff_eq, wordL, hlet, Bool.true_and]
      have hsp := spn_le isGo (c :: l)
      constructor
      · intro h
        have := congrArg List.length h
        rw [List.length_take] at this
        omega
      · intro h
        exact List.take_of_length_le (by omega)
    · have hlf : isLet c = false := by simpa using hlet
      have hk : knd c ≠ 1 := by unfold knd; rw [hlf]; simp; split; (· omega); (split; (· omega); (split <;> omega))
      have e : (tk0 0 (c :: l)).kind ≠ 1 := by
        unfold tk0
        split
        · simp
        · simpa [tkOf] using hk
      rw [if_neg (by omega)]
      simp [wordL, hlf]

theorem tells_plain (s : ByteArray) (hs : s.size ≤ 100) (k : Nat) (hk : 1000 ≤ k) : cadencylaw03_ScanTells.j0 k s true ((lexL s.data.toList).1.map tkS) ((lexL s.data.toList).2.1 : Nat) ((lexL s.data.toList).2.2 : Nat) false ((eachL s.data.toList).1.map tkS) ((eachL s.data.toList).2 : Nat) = some true := by
  obtain ⟨k, rfl⟩ : ∃ m, k = m + 1 := ⟨k - 1, by omega⟩
  have hL : s.data.toList.length = s.size := by simp
  have hle := eachL_len s.data.toList
  have hend := eachL_end s.data.toList
  simp only [cadencylaw03_ScanTells.j0]
  unfold lexL
  by_cases h : (eachL s.data.toList).2 < s.data.toList.length
  · rw [if_pos h, if_neg (by simp), if_neg (by omega), if_pos rfl, if_pos (by simp), if_pos (by simp)]
    rfl
  · rw [if_neg h, if_neg (by simp), if_pos (by omega), refSame_some _ (by simp; omega) k (by simp; omega)]
    simp only [Option.bind_some]
    simp only [if_true]
    rw [if_pos (by omega)]
    rfl

theorem ScanTells : cadencylaw03_ScanTells.Pure := by
  intro a0 _
  refine ⟨2000, ?_⟩
  have hs := sh_size a0
  have hle := eachL_len (sh a0).data.toList
  have hL : (sh a0).data.toList.length = (sh a0).size := by simp
  unfold cadencylaw03_ScanTells.f
  rw [awake_some, short_some]
  simp only [Option.bind_some]
  rw [refEach_some (sh a0) (by omega) 2000 (by omega)]
  simp only [Option.bind_some]
  unfold cadencylaw03_each.f scan_Lex.f scan_Word.f
  rw [if_pos (by omega), if_pos (by omega), if_pos (by omega)]
  simp only [Option.bind_some]
  rw [refSame_some _ (by simp; omega) 2000 (by simp; omega), refWord_some (sh a0) (by omega)]
  simp only [Option.bind_some, if_true, bne_self_eq_false]
  exact tells_plain (sh a0) hs 2000 (by omega)

end Go.Proofs.Ytehlabphhcdooaa.Pure
