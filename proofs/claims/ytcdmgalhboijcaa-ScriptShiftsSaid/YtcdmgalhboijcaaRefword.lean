/- The document's Word: whether a text is a word. -/
import Derived.Test.YtcdmgalhboijcaaRefone
namespace Go.Proofs.Ytcdmgalhboijcaa.Sc
open Go.RowKit Go.Shelf

theorem refWord_any (s : ByteArray) (hs : s.size ≤ 9223372036854775807) (w : World) :
    Calls Try.prog 42 #[.string s] w fun e w' => e = .returned (.bool (wordL s.data.toList)) ∧ Keeps [] w w' := by
  cases hl : s.data.toList with
  | nil =>
    have h0 : s.toList = [] := by rw [Lib.toList_data]; exact hl
    have h1 : s.toList.isEmpty = true := by rw [h0]; rfl
    have h2 : (s.toList == []) = true := by rw [h0]; rfl
    clear h0
    go_enter Try.func42, Try.ntmps42
    go_wp2
    go_ret
    exact ⟨rfl, Keeps.refl _ _⟩
  | cons c l =>
    have hpos : 0 < s.size := by
      have : s.data.toList.length = s.size := by simp
      rw [hl] at this
      simp at this
      omega
    have hne : s.toList.isEmpty = false := by rw [Lib.toList_data, hl]; rfl
    have hne2 : (s.toList == []) = false := by rw [Lib.toList_data, hl]; rfl
    have H := refOne_any s hs 0 hpos
    have hd : s.data.toList.drop 0 = c :: l := by rw [hl]; rfl
    rw [hd] at H
    have HL := Lib.hid hl
    have HONE := Lib.hid H
    clear hl H hd hs
    cases h1 : isLet c
    · have hv : wordL (c :: l) = false := by simp [wordL, h1]
      have hk : knd c ≠ 1 := by
        unfold knd
        rw [h1]
        simp
        split <;> (try omega)
        split <;> (try omega)
        split <;> omega
      have ho : ∃ kd at_ tx nu, oneAt 0 (c :: l) = .agg #[.int .i64 kd, .int .i64 at_, .string tx, .int .i64 nu] ∧ (kd == 1) = false := by
        unfold oneAt
        split
        · exact ⟨_, _, _, _, rfl, rfl⟩
        · refine ⟨_, _, _, _, rfl, ?_⟩
          rw [beq_eq_false_iff_ne]
          show ((knd c : Nat) : Int) ≠ 1
          omega
      obtain ⟨kd, at_, tx, nu, ho, hkd⟩ := ho
      rw [ho] at HONE
      have HV := Lib.hid hv
      clear hv hk ho h1
      go_enter Try.func42, Try.ntmps42
      go_wp2_with fail
      refine (HONE.out _).mono ?_
      rintro e w' ⟨rfl, K⟩
      go_wp2
      go_ret
      exact ⟨by rw [HV.out]; simp, K.alloc _⟩
    · have HV : Hid (wordL (c :: l) = decide (spn isGo (c :: l) = s.size)) := Lib.hid (by
        have : s.size = (c :: l).length := by rw [← HL.out]; simp
        rw [this, Bool.eq_iff_iff]
        simp [wordL, h1])
      have ho := oneAt_kind (a := 0) (l := l) (knd_let h1) (by decide) (tln_let (l := l) h1)
      rw [ho] at HONE
      clear ho
      obtain ⟨n, hn⟩ : ∃ n, n = spn isGo (c :: l) := ⟨_, rfl⟩
      rw [← hn] at HONE HV
      have hnl := spn_le isGo (c :: l)
      rw [← hn] at hnl
      have hsz : s.size = (c :: l).length := by rw [← HL.out]; simp
      obtain ⟨T, hT⟩ : ∃ T : ByteArray, T = ⟨((c :: l).take n).toArray⟩ := ⟨_, rfl⟩
      rw [← hT] at HONE
      have hTl : (T.toList == s.toList) = decide (n = s.size) := by
        rw [Lib.toList_data, Lib.toList_data, HL.out, hT, Bool.eq_iff_iff]
        simp only [beq_iff_eq, decide_eq_true_eq]
        simp only [List.length_cons] at hnl hsz
        constructor
        · intro h
          have := congrArg List.length h
          simp only [List.length_take, List.length_cons] at this
          omega
        · intro h
          exact List.take_of_length_le (by simp; omega)
      have hk1 : (((1 : Nat) : Int) == 1) = true := rfl
      clear hn h1 hnl hsz hT
      go_enter Try.func42, Try.ntmps42
      go_wp2_with fail
      refine (HONE.out _).mono ?_
      rintro e w' ⟨rfl, K⟩
      go_wp2
      all_goals
        go_ret
        exact ⟨by rw [HV.out]; simp [hTl], K.alloc _⟩
end Go.Proofs.Ytcdmgalhboijcaa.Sc
