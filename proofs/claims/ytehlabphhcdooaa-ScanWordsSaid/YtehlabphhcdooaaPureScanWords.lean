/- ScanWords, the plain part: which bytes go on a word. -/
import Derived.Test.YtehlabphhcdooaaS2x2
import Derived.Test.YtehlabphhcdooaaPone2
import Derived.Test.YtehlabphhcdooaaPureplain
namespace Go.Proofs.Ytehlabphhcdooaa.Pure
open Go.RowKit Go.Proofs.Ytehlabphhcdooaa.S2 Go.Proofs.YtehlabphhcdooaaW.PrintWords Go.Proofs.YtehlabphhcdooaaW.PrintLast Go.Proofs.Ytehlabphhcdooaa.Sc Go.Proofs.Ytehlabphhcdooaa.PureS2

theorem word_app (l : List UInt8) (c : UInt8) (h : wordL l = true) : wordL (l ++ [c]) = isGo c := by
  obtain ⟨d, m, rfl, hd, hg⟩ := word_spec h
  have hs := spn_app (m := [c]) hg
  simp only [List.cons_append] at hs ⊢
  simp only [wordL, hd, Bool.true_and]
  rw [hs, spn_cons, spn_nil]
  cases isGo c <;> simp

theorem words_plain (k : Nat) (s : ByteArray) (hs : s.size ≤ 100) (c : UInt8) (hw : wordL s.data.toList = true) (t : ByteArray) (ht : t.data.toList = s.data.toList ++ [c]) (b : Bool) (hb : b = isGo c) :
    cadencylaw03_ScanWords.j0 (k + 1) s true t b = some true := by
  subst hb
  have hwt := word_app _ c hw
  obtain ⟨d, m, hL, hd, hg⟩ := word_spec hw
  rw [hL] at hg ht hw
  have hts : t.size = s.size + 1 := by
    have h1 : t.data.toList.length = t.size := by simp
    have h2 : s.data.toList.length = s.size := by simp
    rw [← h1, ht, ← hL, List.length_append, h2]; rfl
  have hsl : s.toList = d :: m := by rw [Lib.toList_data, hL]
  have htl : t.toList = (d :: m) ++ [c] := by rw [Lib.toList_data, ht]
  have hmk : ∀ l : List UInt8, (⟨l.toArray⟩ : ByteArray).toList = l := fun l => by rw [Lib.toList_data]
  simp only [cadencylaw03_ScanWords.j0]
  unfold scan_Lex.f cadencylaw03_each.f scan_Word.f
  rw [if_pos (by omega), if_pos (by omega), if_pos (by omega)]
  simp only [Option.bind_some]
  have hlex : lexL s.data.toList = ([⟨1, 0, d :: m, 0⟩], (d :: m).length, 0) := by
    unfold lexL
    rw [hL, each_word_alone hd hg]
    simp
  rw [hlex, ht]
  rw [hL] at hwt
  rw [hwt]
  simp only [if_true, beq_self_eq_true]
  cases hgo : isGo c
  · have he := each_word (r := [c]) hd hg (by rw [spn_cons, hgo]; rfl)
    rw [he]
    simp [rd_T28, tkS, hmk, hsl, htl, hL, ht]
    omega
  · have hg2 : ∀ x ∈ d :: (m ++ [c]), isGo x = true := by
      intro x hx
      rw [← List.cons_append] at hx
      rcases List.mem_append.1 hx with h | h
      · exact hg x h
      · rw [List.mem_singleton.1 h]; exact hgo
    have he := each_word_alone hd hg2
    rw [List.cons_append, he]
    simp [rd_T28, tkS, hmk, hsl, htl, hL, ht]

theorem ScanWords : cadencylaw03_ScanWords.Pure := by
  intro a0 a1 _ hwf
  have hr : 0 ≤ a1 ∧ a1 ≤ 255 := by simpa [Lit.wf, IntKind.min, IntKind.max, IntKind.signed, IntKind.bits] using hwf
  obtain ⟨c, rfl⟩ : ∃ c : UInt8, a1 = (c.toNat : Int) := ⟨UInt8.ofNat a1.toNat, by
    have : a1.toNat < 256 := by omega
    simp [UInt8.toNat_ofNat', Nat.mod_eq_of_lt this]; omega⟩
  refine ⟨1, ?_⟩
  have hs := sh_size a0
  have hsn : strOfNums [(c.toNat : Int)] = ⟨#[c]⟩ := by simp [strOfNums]
  have ht : (sh a0 ++ (⟨#[c]⟩ : ByteArray)).data.toList = (sh a0).data.toList ++ [c] := by simp
  have hts : (sh a0 ++ (⟨#[c]⟩ : ByteArray)).size = (sh a0).size + 1 := by rw [ByteArray.size_append]; rfl
  unfold cadencylaw03_ScanWords.f
  rw [awake_some, short_some]
  simp only [Option.bind_some]
  rw [hsn, if_pos (by rw [show (⟨#[c]⟩ : ByteArray).size = 1 from rfl]; omega)]
  rw [show scan_Word.f (sh a0) = some (wordL (sh a0).data.toList) from by unfold scan_Word.f; rw [if_pos (by omega)]]
  simp only [Option.bind_some]
  cases hw : wordL (sh a0).data.toList
  · rw [if_neg (by simp), if_pos trivial, show scan_Word.f (sh a0 ++ ⟨#[c]⟩) = some (wordL (sh a0 ++ (⟨#[c]⟩ : ByteArray)).data.toList) from by unfold scan_Word.f; rw [if_pos (by omega)], refWord_some _ (by omega)]
    simp
  · rw [if_pos rfl]
    have key := fun b hb => words_plain 0 (sh a0) hs c hw _ ht b hb
    have hgi := isGo_int c
    repeat' split
    all_goals (refine key _ ?_; rw [hgi]; first | (symm; rw [decide_eq_true_iff]; omega) | (rw [Bool.eq_iff_iff]; simp; omega))
end Go.Proofs.Ytehlabphhcdooaa.Pure
