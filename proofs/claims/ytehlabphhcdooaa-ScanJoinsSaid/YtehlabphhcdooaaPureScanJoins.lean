/- ScanJoins, the plain part: tokens put down one behind the other are told again. -/
import Derived.Test.YtehlabphhcdooaaS3x3
import Derived.Test.YtehlabphhcdooaaJoinplain
set_option linter.unusedVariables false
set_option linter.unusedSimpArgs false
namespace Go.Proofs.Ytehlabphhcdooaa.PureJ
open Go.RowKit Go.Proofs.Ytehlabphhcdooaa.S3 Go.Proofs.YtehlabphhcdooaaW.PrintWords Go.Proofs.YtehlabphhcdooaaW.PrintLast Go.Proofs.Ytehlabphhcdooaa.Sc

theorem awake_some : cadencylaw03_awake.f = some true := by decide +kernel
def sh (s : ByteArray) : ByteArray := if s.size > 100 then s.extract 0 100 else s
theorem sh_size (s : ByteArray) : (sh s).size ≤ 100 := by
  unfold sh
  split
  · simp; omega
  · omega
theorem short_some (s : ByteArray) : cadencylaw03_short.f s = some (sh s) := by
  unfold cadencylaw03_short.f sh
  by_cases h : s.size > 100
  · rw [if_pos (by omega), if_pos (by decide), if_pos (by omega), if_pos h]
  · rw [if_neg (by omega), if_neg h]
theorem hmk (l : List UInt8) : (⟨l.toArray⟩ : ByteArray).toList = l := by rw [Lib.toList_data]
theorem hsz (s : ByteArray) : s.data.toList.length = s.size := by simp

/-- Two tokens that differ in their places alone. -/
def Like (x y : S28) : Prop := x.f0 = y.f0 ∧ x.f2.toList = y.f2.toList ∧ x.f3 = y.f3
theorem like_strip {t u : Tk} (h : strip t = strip u) : Like (tkS t) (tkS u) := by
  unfold strip at h
  simp only [Prod.mk.injEq] at h
  obtain ⟨h1, h2, h3⟩ := h
  exact ⟨by simp [tkS, h1], by simp [tkS, h2], by simp [tkS, h3]⟩
theorem rd_set (xs : List S28) (i : Nat) (v : S28) (h : i < xs.length) : rd_T28 (xs.set i v) (i : Int) = v := by
  unfold rd_T28
  simp [h]
theorem rd_set_ne (xs : List S28) (i j : Nat) (v : S28) (h : i ≠ j) : rd_T28 (xs.set i v) (j : Int) = rd_T28 xs (j : Int) := by
  unfold rd_T28
  simp [List.getD_eq_getElem?_getD, List.getElem?_set, h]
theorem loop1 (x6 : List S28) : ∀ (n i : Nat) (a b : List S28), n + i = x6.length → x6.length ≤ 1000 → a.length = x6.length → b.length = x6.length →
    (∀ j, j < x6.length → Like (rd_T28 a (j : Int)) (rd_T28 x6 (j : Int))) → (∀ j, j < x6.length → Like (rd_T28 b (j : Int)) (rd_T28 x6 (j : Int))) →
    cadencylaw03_ScanJoins.l1 (n + 1) true x6 a b (i : Int) = some true := by
  intro n
  induction n with
  | zero =>
    intro i a b hn hb ha1 hb1 ha hbb
    simp only [cadencylaw03_ScanJoins.l1]
    rw [if_neg (by omega)]
  | succ n ih =>
    intro i a b hn hb ha1 hb1 ha hbb
    have hi : i < x6.length := by omega
    conv => lhs; unfold cadencylaw03_ScanJoins.l1
    rw [if_pos (by omega), if_pos (by omega), if_pos (by omega)]
    simp only [Option.bind_some]
    rw [if_pos (by omega)]
    simp only [Int.toNat_natCast]
    rw [rd_set _ _ _ (by omega), rd_set _ _ _ (by omega)]
    obtain ⟨a1, a2, a3⟩ := ha i hi
    obtain ⟨b1, b2, b3⟩ := hbb i hi
    simp only []
    rw [a1, a2, a3, b1, b2, b3, show wrap64 ((i : Int) + 1) = ((i + 1 : Nat) : Int) from by unfold wrap64; omega]
    rw [if_neg (by simp), if_neg (by simp)]
    refine ih (i + 1) _ _ (by omega) hb (by simpa using ha1) (by simpa using hb1) ?_ ?_
    · intro j hj
      by_cases h : i = j
      · subst h
        rw [rd_set _ _ _ (by omega)]
        exact ⟨rfl, a2, rfl⟩
      · rw [rd_set_ne _ _ _ _ h]; exact ha j hj
    · intro j hj
      by_cases h : i = j
      · subst h
        rw [rd_set _ _ _ (by omega)]
        exact ⟨rfl, b2, rfl⟩
      · rw [rd_set_ne _ _ _ _ h]; exact hbb j hj

theorem like_maps {ts us : List Tk} (h : ts.map strip = us.map strip) : ∀ j, j < (us.map tkS).length → Like (rd_T28 (ts.map tkS) (j : Int)) (rd_T28 (us.map tkS) (j : Int)) := by
  have hl : ts.length = us.length := by have := congrArg List.length h; simpa using this
  intro j hj
  simp only [List.length_map] at hj
  have h1 : (ts.map strip)[j]? = (us.map strip)[j]? := by rw [h]
  rw [List.getElem?_map, List.getElem?_map, List.getElem?_eq_getElem hj, List.getElem?_eq_getElem (by omega)] at h1
  simp only [Option.map_some, Option.some.injEq] at h1
  have e : ∀ (vs : List Tk) (hv : j < vs.length), rd_T28 (vs.map tkS) (j : Int) = tkS vs[j] := by
    intro vs hv
    unfold rd_T28
    rw [List.getD_eq_getElem?_getD, Int.toNat_natCast, List.getElem?_map, List.getElem?_eq_getElem hv]
    rfl
  rw [e _ hj, e _ (by omega)]
  exact like_strip h1

theorem final (x1 : Int) (l : List Tk) (hl : l.length ≤ 1000) (P W : ByteArray) (hP : P.size ≤ 1000000) (hW : W.size ≤ 1000000)
    (h1 : (eachL P.data.toList).1.map strip = l.map strip) (h2 : (eachL W.data.toList).1.map strip = l.map strip) :
    cadencylaw03_ScanJoins.l0 (l.length + 1 + 1) x1 true (l.map tkS) true P W (l.length : Int) = some true := by
  have e1 : (eachL P.data.toList).1.length = l.length := by have := congrArg List.length h1; simpa using this
  have e2 : (eachL W.data.toList).1.length = l.length := by have := congrArg List.length h2; simpa using this
  conv => lhs; unfold cadencylaw03_ScanJoins.l0
  rw [if_neg (by simp)]
  unfold cadencylaw03_each.f
  rw [if_pos hP, if_pos hW]
  simp only [Option.bind_some]
  rw [if_pos trivial, if_pos trivial, if_pos trivial, if_pos (by simp [e1]), if_pos (by simp [e2])]
  have := loop1 (l.map tkS) l.length 0 ((eachL P.data.toList).1.map tkS) ((eachL W.data.toList).1.map tkS) (by simp) (by simpa using hl) (by simpa using e1) (by simpa using e2) (like_maps h1) (like_maps h2)
  exact this

def bitAt (x1 : Int) (i : Nat) : Bool := decide ((Go.bits .and .i64 (shr .i64 x1 (IntKind.u64.wrap (Go.bits .and .i64 (i : Int) 31))) 1) = 1)

theorem loop0 (x1 : Int) (l : List Tk) (hl : l.length ≤ 100) (ht : ∀ t ∈ l, t.text.length ≤ 100) (PL WL : List UInt8)
    (fin : ∀ P W : ByteArray, P.size ≤ 1000000 → W.size ≤ 1000000 → P.data.toList = PL → W.data.toList = WL → ∃ k, cadencylaw03_ScanJoins.l0 k x1 true (l.map tkS) true P W (l.length : Int) = some true) :
    ∀ (r : List Tk) (i : Nat) (P W : ByteArray), l.drop i = r → i ≤ l.length → P.size ≤ i * 101 → W.size ≤ 1 + i * 114 → P.data.toList ++ bld (plainP r) = PL → W.data.toList ++ bld (wideP (bitAt x1) i r) = WL →
    ∃ k, cadencylaw03_ScanJoins.l0 k x1 true (l.map tkS) true P W (i : Int) = some true := by
  intro r
  induction r with
  | nil =>
    intro i P W hd hi hPs hWs hP hW
    have : i = l.length := by
      have := congrArg List.length hd
      simp at this
      omega
    subst this
    exact fin P W (by omega) (by omega) (by simpa [plainP, bld] using hP) (by simpa [wideP, bld] using hW)
  | cons t r ih =>
    intro i P W hd hi hPs hWs hP hW
    have hlen : l.length = i + (r.length + 1) := by
      have := congrArg List.length hd
      simp at this
      omega
    have hti : l[i]? = some t := by
      have : (l.drop i)[0]? = some t := by rw [hd]; rfl
      simpa using this
    have hrd : rd_T28 (l.map tkS) (i : Int) = tkS t := by
      unfold rd_T28
      rw [List.getD_eq_getElem?_getD, Int.toNat_natCast, List.getElem?_map, hti]
      rfl
    have hmem : t ∈ l := List.mem_of_getElem? hti
    have htl := ht t hmem
    have hts : (tkS t).f2.size = t.text.length := by simp [tkS, ByteArray.size]
    have hd2 : l.drop (i + 1) = r := by rw [← List.drop_drop, hd]; rfl
    have htd : (tkS t).f2.data.toList = t.text := by simp [tkS]
    have hw1 : wrap64 ((i : Int) + 1) = ((i + 1 : Nat) : Int) := by unfold wrap64; omega
    have hnn : (0 : Int) ≤ IntKind.u64.wrap (Go.bits .and .i64 (i : Int) 31) := by rw [IntKind.wrap_u64]; omega
    have s1 : (P ++ (tkS t).f2).size = P.size + t.text.length := by rw [ByteArray.size_append, hts]
    have s2 : (W ++ (tkS t).f2).size = W.size + t.text.length := by rw [ByteArray.size_append, hts]
    have s3 : ((W ++ (tkS t).f2) ++ (⟨#[32, 32, 9]⟩ : ByteArray)).size = W.size + t.text.length + 3 := by rw [ByteArray.size_append, s2]; rfl
    have s4 : ((P ++ (tkS t).f2) ++ (⟨#[32]⟩ : ByteArray)).size = P.size + t.text.length + 1 := by rw [ByteArray.size_append, s1]; rfl
    have s5 : (((W ++ (tkS t).f2) ++ (⟨#[32, 32, 9]⟩ : ByteArray)) ++ (⟨#[35, 32, 97, 32, 61, 32, 49, 32, 35, 44, 32]⟩ : ByteArray)).size = W.size + t.text.length + 3 + 11 := by rw [ByteArray.size_append, s3]; rfl
    have hPP : ((P ++ (tkS t).f2) ++ (⟨#[32]⟩ : ByteArray)).data.toList ++ bld (plainP r) = PL := by
      rw [← hP]
      simp [plainP, bld, htd]
    have yes : lineNext r = true → bitAt x1 i = true → ∃ k, cadencylaw03_ScanJoins.l0 k x1 true (l.map tkS) true ((P ++ (tkS t).f2) ++ (⟨#[32]⟩ : ByteArray)) (((W ++ (tkS t).f2) ++ (⟨#[32, 32, 9]⟩ : ByteArray)) ++ (⟨#[35, 32, 97, 32, 61, 32, 49, 32, 35, 44, 32]⟩ : ByteArray)) ((i + 1 : Nat) : Int) = some true := by
      intro h1 h2
      refine ih (i + 1) _ _ hd2 (by omega) (by omega) (by omega) hPP ?_
      rw [← hW]
      simp [wideP, bld, htd, h1, h2, noteL]
    have no : (lineNext r && bitAt x1 i) = false → ∃ k, cadencylaw03_ScanJoins.l0 k x1 true (l.map tkS) true ((P ++ (tkS t).f2) ++ (⟨#[32]⟩ : ByteArray)) ((W ++ (tkS t).f2) ++ (⟨#[32, 32, 9]⟩ : ByteArray)) ((i + 1 : Nat) : Int) = some true := by
      intro h1
      refine ih (i + 1) _ _ hd2 (by omega) (by omega) (by omega) hPP ?_
      rw [← hW]
      simp only [wideP, h1]
      simp [bld, htd]
    have main : ∀ X : Option Bool → Prop, True := fun _ => trivial
    by_cases hb : bitAt x1 i = true
    · have hb' : (Go.bits .and .i64 (shr .i64 x1 (IntKind.u64.wrap (Go.bits .and .i64 (i : Int) 31))) 1) = 1 := by simpa [bitAt] using hb
      cases r with
      | nil =>
        obtain ⟨k, hk⟩ := yes rfl hb
        refine ⟨k + 1, ?_⟩
        conv => lhs; unfold cadencylaw03_ScanJoins.l0
        rw [hrd, List.length_map]
        rw [if_pos (by simp at hlen; omega), if_pos (by omega), if_pos (by omega), if_pos (by omega), if_pos (by omega), if_pos (by omega)]
        rw [if_pos (by simp at hlen; unfold wrap64; omega), if_pos hnn, if_pos hb', if_pos (by omega), hw1]
        exact hk
      | cons u r =>
        have hui : rd_T28 (l.map tkS) ((i + 1 : Nat) : Int) = tkS u := by
          have : (l.drop (i + 1))[0]? = some u := by rw [hd2]; rfl
          unfold rd_T28
          rw [List.getD_eq_getElem?_getD, Int.toNat_natCast, List.getElem?_map]
          rw [List.getElem?_drop] at this
          rw [show i + 1 + 0 = i + 1 from rfl] at this
          rw [this]; rfl
        have hu0 : (tkS u).f0 = (u.kind : Int) := rfl
        by_cases h4 : u.kind = 4
        · obtain ⟨k, hk⟩ := yes (by simp [lineNext, h4]) hb
          refine ⟨k + 1, ?_⟩
          conv => lhs; unfold cadencylaw03_ScanJoins.l0
          rw [hrd, List.length_map, hw1, hui]
          rw [if_pos (by simp at hlen; omega), if_pos (by omega), if_pos (by omega), if_pos (by omega), if_pos (by omega), if_pos (by omega)]
          rw [if_neg (by simp at hlen; unfold wrap64; omega), if_pos (by omega), if_pos (by simp at hlen; omega), if_pos (by rw [hu0]; omega), if_pos hnn, if_pos hb', if_pos (by omega)]
          exact hk
        · obtain ⟨k, hk⟩ := no (by simp [lineNext, h4])
          refine ⟨k + 1, ?_⟩
          conv => lhs; unfold cadencylaw03_ScanJoins.l0
          rw [hrd, List.length_map, hw1, hui]
          rw [if_pos (by simp at hlen; omega), if_pos (by omega), if_pos (by omega), if_pos (by omega), if_pos (by omega), if_pos (by omega)]
          rw [if_neg (by simp at hlen; unfold wrap64; omega), if_pos (by omega), if_pos (by simp at hlen; omega), if_neg (by rw [hu0]; omega)]
          exact hk
    · have hb' : ¬ (Go.bits .and .i64 (shr .i64 x1 (IntKind.u64.wrap (Go.bits .and .i64 (i : Int) 31))) 1) = 1 := by simpa [bitAt] using hb
      have hbf : bitAt x1 i = false := by simpa using hb
      obtain ⟨k, hk⟩ := no (by rw [hbf, Bool.and_false])
      refine ⟨k + 1, ?_⟩
      conv => lhs; unfold cadencylaw03_ScanJoins.l0
      rw [hrd, List.length_map, hw1]
      rw [if_pos (by omega), if_pos (by omega), if_pos (by omega), if_pos (by omega), if_pos (by omega), if_pos (by omega), if_neg hb', if_pos hnn]
      split
      · exact hk
      · rename_i hne
        rw [if_pos (by omega), if_pos (by unfold wrap64 at hne; omega)]
        split
        · exact hk
        · exact hk
end Go.Proofs.Ytehlabphhcdooaa.PureJ
namespace Go.Proofs.Ytehlabphhcdooaa.Pure
open Go.RowKit Go.Proofs.Ytehlabphhcdooaa.S3 Go.Proofs.YtehlabphhcdooaaW.PrintWords Go.Proofs.YtehlabphhcdooaaW.PrintLast Go.Proofs.Ytehlabphhcdooaa.Sc
theorem ScanJoins : cadencylaw03_ScanJoins.Pure := by
  intro a0 a1 h0 h1
  have hs := PureJ.sh_size a0
  have hL := PureJ.hsz (PureJ.sh a0)
  unfold cadencylaw03_ScanJoins.f
  rw [PureJ.awake_some, PureJ.short_some]
  simp only [Option.bind_some]
  generalize PureJ.sh a0 = s at hs hL
  rw [show cadencylaw03_each.f s = some ((eachL s.data.toList).1.map tkS, true) from by unfold cadencylaw03_each.f; rw [if_pos (by omega)]]
  simp only [Option.bind_some]
  have hc := eachL_len s.data.toList
  have ht := (lex_end s.data.toList s.data.toList.length 0 (by omega) (by omega)).2.2
  rw [List.drop_zero, Nat.zero_add, ← eachL_eq] at ht
  have hw := each_whole s.data.toList
  generalize (eachL s.data.toList).1 = l at hc ht hw
  have h9 : (⟨#[9]⟩ : ByteArray).size = 1 := rfl
  refine PureJ.loop0 a1 l (by omega) (fun t h => by have := ht t h; omega) (bld (plainP l)) (9 :: bld (wideP (PureJ.bitAt a1) 0 l)) ?_ l 0 _ _ rfl (by omega) (by decide) (by omega) rfl rfl
  intro P W hP hW eP eW
  exact ⟨_, PureJ.final a1 l (by omega) P W hP hW (by rw [eP]; exact each_plain l hw) (by rw [eW]; exact each_wide _ l hw)⟩
end Go.Proofs.Ytehlabphhcdooaa.Pure
