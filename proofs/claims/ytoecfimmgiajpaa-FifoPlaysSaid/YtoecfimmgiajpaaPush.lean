/- Queues of texts and of numbers: Push, where there is room and where there is none. -/
import Derived.Test.YtoecfimmgiajpaaGrow
import Derived.StillTactics
namespace Go.Proofs.Ytoecfimmgiajpaa
open Go.RowKit

theorem pushRoomS (b r size frm n k : Nat) (x : ByteArray) (cs : List Value) (w : World) (hn : n < size) (hfrm : frm < size) (hsz : size ≤ 3000000) (hcs : cs.length = size) (hrb : r ≠ b) (hk : k = (frm + n) % size)
    (hb : w.heap[b]? = some (.cells #[.slice (some ⟨r, 0, none⟩) size size, .int .i64 frm, .int .i64 n] 54 (0, 0)))
    (hr : w.heap[r]? = some (.cells cs.toArray 9 (0, 0))) :
    Calls Try.prog 10 #[.pointer (some ⟨b, 0, none⟩), .string x] w fun e w' => e = .returned (.tuple #[]) ∧ w'.heap[b]? = some (.cells #[.slice (some ⟨r, 0, none⟩) size size, .int .i64 frm, .int .i64 (n + 1 : Nat)] 54 (0, 0)) ∧
      w'.heap[r]? = some (.cells (cs.set k (.string x)).toArray 9 (0, 0)) ∧ Keeps [b, r] w w' := by
  obtain ⟨h0, h1, h2, f0, f1, f2⟩ := facts3 hb
  have hne : ((n : Int) == (size : Int)) = false := by simp; omega
  have hks : k < size := by rw [hk]; exact Nat.mod_lt _ (by omega)
  have he2 : Hid (((frm : Int) + (n : Int)).tmod (size : Int) = (k : Int)) := by
    show _ = _
    rw [hk, Int.tmod_eq_emod_of_nonneg (by omega)]; simp
  have hz0 : ¬ size = 0 := by omega
  have HB := Lib.hid hb
  have HR := Lib.hid hr
  have HC := Lib.hid hcs
  clear hb hr hcs hk
  go_enter Try.func10, Try.ntmps10
  go_wp2_with fail
  go_still (by kernel_rfl)
  go_wp2_with fail
  refine name_drew (w := w) ?_
  rintro w1 K1 -
  have hb1 := K1.blk HB.out (by simp)
  have hr1 := K1.blk HR.out (by simp)
  clear h0 h1 h2 f0 f1 f2
  obtain ⟨g0, g1, g2, -, -, -⟩ := facts3 hb1
  have gc : (w1.cell? ⟨r, k, none⟩) = some (cs[k]'(by rw [HC.out]; exact hks)) := by rw [cell_blk hr1]; simp [HC.out, hks]
  have gf := free_blk hr1 k
  have HB1 := Lib.hid hb1
  have HR1 := Lib.hid hr1
  clear hb1 hr1
  have e1 : IntKind.i64.wrap ((frm : Int) + (n : Int)) = (frm : Int) + (n : Int) := IntWalk.i64_in _ (by omega)
  have e2 := he2.out
  have e3 : (k : Int) < (size : Int) := by omega
  go_still_tail 21, (by kernel_rfl)
  refine name_drew_list (w := w1) ?_
  rintro w2 K2 -
  clear g0 g1 g2 gc gf e1 e2
  have hb2 := K2.blk HB1.out (by simp)
  have hr2 := K2.blk HR1.out (by simp)
  obtain ⟨g0, g1, g2, d0, d1, d2⟩ := facts3 hb2
  obtain ⟨old, gc⟩ : ∃ old, w2.cell? ⟨r, k, none⟩ = some old := ⟨cs[k]'(by rw [HC.out]; exact hks), by rw [cell_blk hr2]; simp [HC.out, hks]⟩
  have gf := free_blk hr2 k
  have HB2 := Lib.hid hb2
  have HR2 := Lib.hid hr2
  clear hb2 hr2
  go_wp2
  go_returns
  refine ⟨rfl, ?_, ?_, ?_⟩
  · have := blk_set_same (blk_set_other HB2.out ⟨r, k, none⟩ (.string x) hrb) 2 (.int .i64 ((n + 1 : Nat) : Int))
    simpa using this
  · have := blk_set_other (blk_set_same HR2.out k (.string x)) ⟨b, 2, none⟩ (.int .i64 ((n + 1 : Nat) : Int)) (Ne.symm hrb)
    simpa using this
  · exact ((((Keeps.refl _ _).andThen K1 (by simp)).andThen K2 (by simp)).setCell r k _ (by simp)).setCell b 2 _ (by simp)

theorem pushFullS (b : Nat) (ao : Option Addr) (n frm0 size : Nat) (x : ByteArray) (os : List Value) (w : World) (hn : n ≤ 1000000) (hfrm0 : frm0 ≤ n) (hos : os.length = n) (hsize : size = max 8 (2 * n))
    (hao : ao = none → n = 0) (hr : ∀ a, ao = some a → ∃ r, a = ⟨r, 0, none⟩ ∧ r ≠ b ∧ w.heap[r]? = some (.cells os.toArray 9 (0, 0)))
    (h1c : ∀ u ∈ os, u.oneCell' = true)
    (hb : w.heap[b]? = some (.cells #[.slice ao n n, .int .i64 frm0, .int .i64 n] 54 (0, 0))) :
    Calls Try.prog 10 #[.pointer (some ⟨b, 0, none⟩), .string x] w fun e w' => ∃ (r : Nat) (cs : List Value), e = .returned (.tuple #[]) ∧ w'.heap[b]? = some (.cells #[.slice (some ⟨r, 0, none⟩) size size, .int .i64 (0 : Nat), .int .i64 (n + 1 : Nat)] 54 (0, 0)) ∧
      w'.heap[r]? = some (.cells (cs.set n (.string x)).toArray 9 (0, 0)) ∧ cs.length = size ∧ cs.take n = os.drop frm0 ++ os.take frm0 ∧ w.heap.size ≤ r ∧ Keeps [b] w w' := by
  obtain ⟨h0, h1, h2, f0, f1, f2⟩ := facts3 hb
  have hbl := blk_lt hb
  have hne : ((n : Int) == (n : Int)) = true := by simp
  have HB := Lib.hid hb
  have HR := Lib.hid hr
  have HO := Lib.hid hos
  have HSZ := Lib.hid hsize
  have H1 := Lib.hid h1c
  clear hb hr hos hsize h1c
  go_enter Try.func10, Try.ntmps10
  go_wp2_with fail
  go_still (by kernel_rfl)
  go_wp2_with fail
  refine name_drew_calls (w := w) ?_
  rintro w0 K0 hs0
  have hb0 := K0.blk HB.out (by simp)
  have HR0 : ∀ a, ao = some a → ∃ r, a = ⟨r, 0, none⟩ ∧ r ≠ b ∧ w0.heap[r]? = some (.cells os.toArray 9 (0, 0)) := by
    intro a ha
    obtain ⟨r, h1, h2, h3⟩ := HR.out a ha
    exact ⟨r, h1, h2, K0.blk h3 (by simp)⟩
  have HR0' := Lib.hid HR0
  have HB0 := Lib.hid hb0
  clear h0 h1 h2 f0 f1 f2 HR0 hb0
  have HS0 := Lib.hid hs0
  clear hs0
  refine (growS b ao n frm0 size n os _ HSZ.out hn HO.out hfrm0 hao HR0'.out H1.out HB0.out).mono ?_
  rintro e w1 ⟨rfl, hb1, hown, hg⟩
  go_wp2_with fail
  obtain ⟨cs, hr1, hcs, hle, htake, -⟩ := owns_block hown
  have HT := Lib.hid htake
  clear hown htake
  have hrs : w0.heap.size = w.heap.size := HS0.out
  rw [hrs] at hb1 hr1
  obtain ⟨r, hrw⟩ : ∃ r, r = w.heap.size := ⟨_, rfl⟩
  rw [← hrw] at hb1 hr1
  have hrb : r ≠ b := by omega
  have HRW := Lib.hid hrw
  clear hrw hrs
  have HC := Lib.hid hcs
  clear hcs
  obtain ⟨frm, hfrm⟩ : ∃ frm : Nat, frm = 0 := ⟨_, rfl⟩
  rw [show (Value.int IntKind.i64 0) = Value.int IntKind.i64 (frm : Int) from by rw [hfrm]; rfl] at hb1
  obtain ⟨k, hk⟩ : ∃ k : Nat, k = n := ⟨_, rfl⟩
  have hz0 : ¬ size = 0 := by have := HSZ.out; omega
  have hks : k < size := by have := HSZ.out; omega
  have he2 : Hid (((frm : Int) + (n : Int)).tmod (size : Int) = (k : Int)) := by
    show _ = _
    have := HSZ.out
    rw [Int.tmod_eq_emod_of_nonneg (by omega), hk, hfrm]
    simp
    exact Int.emod_eq_of_lt (by omega) (by omega)
  have HF := Lib.hid hfrm
  have HK := Lib.hid hk
  clear hfrm hk
  have hn' : n ≤ 1000000 := hn
  have hfr : (frm : Int) ≤ 1000000 := by have := HF.out; omega
  obtain ⟨g0, g1, g2, -, -, -⟩ := facts3 hb1
  have gc : (w1.cell? ⟨r, k, none⟩) = some (cs[k]'(by rw [HC.out]; exact hks)) := by rw [cell_blk hr1]; simp [HC.out, hks]
  have gf := free_blk hr1 k
  have HB1 := Lib.hid hb1
  have HR1 := Lib.hid hr1
  clear hb1 hr1
  have e1 : IntKind.i64.wrap ((frm : Int) + (n : Int)) = (frm : Int) + (n : Int) := IntWalk.i64_in _ (by omega)
  have e2 := he2.out
  have e3 : (k : Int) < (size : Int) := by omega
  go_still_tail 21, (by kernel_rfl)
  refine name_drew_list (w := w1) ?_
  rintro w2 K2 -
  clear g0 g1 g2 gc gf e1 e2
  have hb2 := K2.blk HB1.out (by simp)
  have hr2 := K2.blk HR1.out (by simp)
  obtain ⟨g0, g1, g2, d0, d1, d2⟩ := facts3 hb2
  obtain ⟨old, gc⟩ : ∃ old, w2.cell? ⟨r, k, none⟩ = some old := ⟨cs[k]'(by rw [HC.out]; exact hks), by rw [cell_blk hr2]; simp [HC.out, hks]⟩
  have gf := free_blk hr2 k
  have HB2 := Lib.hid hb2
  have HR2 := Lib.hid hr2
  clear hb2 hr2
  go_wp2
  go_returns
  have hK : n = k := HK.out.symm
  have hF := HF.out
  subst hF
  subst hK
  refine ⟨r, cs, rfl, ?_, ?_, HC.out, HT.out, by rw [HRW.out]; exact Nat.le_refl _, ?_⟩
  · have := blk_set_same (blk_set_other HB2.out ⟨r, n, none⟩ (.string x) hrb) 2 (.int .i64 ((n + 1 : Nat) : Int))
    simpa using this
  · have := blk_set_other (blk_set_same HR2.out n (.string x)) ⟨b, 2, none⟩ (.int .i64 ((n + 1 : Nat) : Int)) (Ne.symm hrb)
    simpa using this
  · exact ((((Keeps.refl _ _).andThen K0 (by simp)).andThen (Keeps.grown (Keeps.refl [b] _) hg (by simp)) (by simp)).andThen K2 (by simp)).setCell r n _ (.inr (by rw [HRW.out]; exact Nat.le_refl _)) |>.setCell b 2 _ (by simp)

theorem pushRoomI (b r size frm n k : Nat) (x : Int) (cs : List Value) (w : World) (hn : n < size) (hfrm : frm < size) (hsz : size ≤ 3000000) (hcs : cs.length = size) (hrb : r ≠ b) (hk : k = (frm + n) % size)
    (hb : w.heap[b]? = some (.cells #[.slice (some ⟨r, 0, none⟩) size size, .int .i64 frm, .int .i64 n] 45 (0, 0)))
    (hr : w.heap[r]? = some (.cells cs.toArray 3 (0, 0))) :
    Calls Try.prog 15 #[.pointer (some ⟨b, 0, none⟩), .int .i64 x] w fun e w' => e = .returned (.tuple #[]) ∧ w'.heap[b]? = some (.cells #[.slice (some ⟨r, 0, none⟩) size size, .int .i64 frm, .int .i64 (n + 1 : Nat)] 45 (0, 0)) ∧
      w'.heap[r]? = some (.cells (cs.set k (.int .i64 x)).toArray 3 (0, 0)) ∧ Keeps [b, r] w w' := by
  obtain ⟨h0, h1, h2, f0, f1, f2⟩ := facts3 hb
  have hne : ((n : Int) == (size : Int)) = false := by simp; omega
  have hks : k < size := by rw [hk]; exact Nat.mod_lt _ (by omega)
  have he2 : Hid (((frm : Int) + (n : Int)).tmod (size : Int) = (k : Int)) := by
    show _ = _
    rw [hk, Int.tmod_eq_emod_of_nonneg (by omega)]; simp
  have hz0 : ¬ size = 0 := by omega
  have HB := Lib.hid hb
  have HR := Lib.hid hr
  have HC := Lib.hid hcs
  clear hb hr hcs hk
  go_enter Try.func15, Try.ntmps15
  go_wp2_with fail
  go_still (by kernel_rfl)
  go_wp2_with fail
  refine name_drew (w := w) ?_
  rintro w1 K1 -
  have hb1 := K1.blk HB.out (by simp)
  have hr1 := K1.blk HR.out (by simp)
  clear h0 h1 h2 f0 f1 f2
  obtain ⟨g0, g1, g2, -, -, -⟩ := facts3 hb1
  have gc : (w1.cell? ⟨r, k, none⟩) = some (cs[k]'(by rw [HC.out]; exact hks)) := by rw [cell_blk hr1]; simp [HC.out, hks]
  have gf := free_blk hr1 k
  have HB1 := Lib.hid hb1
  have HR1 := Lib.hid hr1
  clear hb1 hr1
  have e1 : IntKind.i64.wrap ((frm : Int) + (n : Int)) = (frm : Int) + (n : Int) := IntWalk.i64_in _ (by omega)
  have e2 := he2.out
  have e3 : (k : Int) < (size : Int) := by omega
  go_still_tail 21, (by kernel_rfl)
  refine name_drew_list (w := w1) ?_
  rintro w2 K2 -
  clear g0 g1 g2 gc gf e1 e2
  have hb2 := K2.blk HB1.out (by simp)
  have hr2 := K2.blk HR1.out (by simp)
  obtain ⟨g0, g1, g2, d0, d1, d2⟩ := facts3 hb2
  obtain ⟨old, gc⟩ : ∃ old, w2.cell? ⟨r, k, none⟩ = some old := ⟨cs[k]'(by rw [HC.out]; exact hks), by rw [cell_blk hr2]; simp [HC.out, hks]⟩
  have gf := free_blk hr2 k
  have HB2 := Lib.hid hb2
  have HR2 := Lib.hid hr2
  clear hb2 hr2
  go_wp2
  go_returns
  refine ⟨rfl, ?_, ?_, ?_⟩
  · have := blk_set_same (blk_set_other HB2.out ⟨r, k, none⟩ (.int .i64 x) hrb) 2 (.int .i64 ((n + 1 : Nat) : Int))
    simpa using this
  · have := blk_set_other (blk_set_same HR2.out k (.int .i64 x)) ⟨b, 2, none⟩ (.int .i64 ((n + 1 : Nat) : Int)) (Ne.symm hrb)
    simpa using this
  · exact ((((Keeps.refl _ _).andThen K1 (by simp)).andThen K2 (by simp)).setCell r k _ (by simp)).setCell b 2 _ (by simp)

theorem pushFullI (b : Nat) (ao : Option Addr) (n frm0 size : Nat) (x : Int) (os : List Value) (w : World) (hn : n ≤ 1000000) (hfrm0 : frm0 ≤ n) (hos : os.length = n) (hsize : size = max 8 (2 * n))
    (hao : ao = none → n = 0) (hr : ∀ a, ao = some a → ∃ r, a = ⟨r, 0, none⟩ ∧ r ≠ b ∧ w.heap[r]? = some (.cells os.toArray 3 (0, 0)))
    (h1c : ∀ u ∈ os, u.oneCell' = true)
    (hb : w.heap[b]? = some (.cells #[.slice ao n n, .int .i64 frm0, .int .i64 n] 45 (0, 0))) :
    Calls Try.prog 15 #[.pointer (some ⟨b, 0, none⟩), .int .i64 x] w fun e w' => ∃ (r : Nat) (cs : List Value), e = .returned (.tuple #[]) ∧ w'.heap[b]? = some (.cells #[.slice (some ⟨r, 0, none⟩) size size, .int .i64 (0 : Nat), .int .i64 (n + 1 : Nat)] 45 (0, 0)) ∧
      w'.heap[r]? = some (.cells (cs.set n (.int .i64 x)).toArray 3 (0, 0)) ∧ cs.length = size ∧ cs.take n = os.drop frm0 ++ os.take frm0 ∧ w.heap.size ≤ r ∧ Keeps [b] w w' := by
  obtain ⟨h0, h1, h2, f0, f1, f2⟩ := facts3 hb
  have hbl := blk_lt hb
  have hne : ((n : Int) == (n : Int)) = true := by simp
  have HB := Lib.hid hb
  have HR := Lib.hid hr
  have HO := Lib.hid hos
  have HSZ := Lib.hid hsize
  have H1 := Lib.hid h1c
  clear hb hr hos hsize h1c
  go_enter Try.func15, Try.ntmps15
  go_wp2_with fail
  go_still (by kernel_rfl)
  go_wp2_with fail
  refine name_drew_calls (w := w) ?_
  rintro w0 K0 hs0
  have hb0 := K0.blk HB.out (by simp)
  have HR0 : ∀ a, ao = some a → ∃ r, a = ⟨r, 0, none⟩ ∧ r ≠ b ∧ w0.heap[r]? = some (.cells os.toArray 3 (0, 0)) := by
    intro a ha
    obtain ⟨r, h1, h2, h3⟩ := HR.out a ha
    exact ⟨r, h1, h2, K0.blk h3 (by simp)⟩
  have HR0' := Lib.hid HR0
  have HB0 := Lib.hid hb0
  clear h0 h1 h2 f0 f1 f2 HR0 hb0
  have HS0 := Lib.hid hs0
  clear hs0
  refine (growI b ao n frm0 size n os _ HSZ.out hn HO.out hfrm0 hao HR0'.out H1.out HB0.out).mono ?_
  rintro e w1 ⟨rfl, hb1, hown, hg⟩
  go_wp2_with fail
  obtain ⟨cs, hr1, hcs, hle, htake, -⟩ := owns_block hown
  have HT := Lib.hid htake
  clear hown htake
  have hrs : w0.heap.size = w.heap.size := HS0.out
  rw [hrs] at hb1 hr1
  obtain ⟨r, hrw⟩ : ∃ r, r = w.heap.size := ⟨_, rfl⟩
  rw [← hrw] at hb1 hr1
  have hrb : r ≠ b := by omega
  have HRW := Lib.hid hrw
  clear hrw hrs
  have HC := Lib.hid hcs
  clear hcs
  obtain ⟨frm, hfrm⟩ : ∃ frm : Nat, frm = 0 := ⟨_, rfl⟩
  rw [show (Value.int IntKind.i64 0) = Value.int IntKind.i64 (frm : Int) from by rw [hfrm]; rfl] at hb1
  obtain ⟨k, hk⟩ : ∃ k : Nat, k = n := ⟨_, rfl⟩
  have hz0 : ¬ size = 0 := by have := HSZ.out; omega
  have hks : k < size := by have := HSZ.out; omega
  have he2 : Hid (((frm : Int) + (n : Int)).tmod (size : Int) = (k : Int)) := by
    show _ = _
    have := HSZ.out
    rw [Int.tmod_eq_emod_of_nonneg (by omega), hk, hfrm]
    simp
    exact Int.emod_eq_of_lt (by omega) (by omega)
  have HF := Lib.hid hfrm
  have HK := Lib.hid hk
  clear hfrm hk
  have hn' : n ≤ 1000000 := hn
  have hfr : (frm : Int) ≤ 1000000 := by have := HF.out; omega
  obtain ⟨g0, g1, g2, -, -, -⟩ := facts3 hb1
  have gc : (w1.cell? ⟨r, k, none⟩) = some (cs[k]'(by rw [HC.out]; exact hks)) := by rw [cell_blk hr1]; simp [HC.out, hks]
  have gf := free_blk hr1 k
  have HB1 := Lib.hid hb1
  have HR1 := Lib.hid hr1
  clear hb1 hr1
  have e1 : IntKind.i64.wrap ((frm : Int) + (n : Int)) = (frm : Int) + (n : Int) := IntWalk.i64_in _ (by omega)
  have e2 := he2.out
  have e3 : (k : Int) < (size : Int) := by omega
  go_still_tail 21, (by kernel_rfl)
  refine name_drew_list (w := w1) ?_
  rintro w2 K2 -
  clear g0 g1 g2 gc gf e1 e2
  have hb2 := K2.blk HB1.out (by simp)
  have hr2 := K2.blk HR1.out (by simp)
  obtain ⟨g0, g1, g2, d0, d1, d2⟩ := facts3 hb2
  obtain ⟨old, gc⟩ : ∃ old, w2.cell? ⟨r, k, none⟩ = some old := ⟨cs[k]'(by rw [HC.out]; exact hks), by rw [cell_blk hr2]; simp [HC.out, hks]⟩
  have gf := free_blk hr2 k
  have HB2 := Lib.hid hb2
  have HR2 := Lib.hid hr2
  clear hb2 hr2
  go_wp2
  go_returns
  have hK : n = k := HK.out.symm
  have hF := HF.out
  subst hF
  subst hK
  refine ⟨r, cs, rfl, ?_, ?_, HC.out, HT.out, by rw [HRW.out]; exact Nat.le_refl _, ?_⟩
  · have := blk_set_same (blk_set_other HB2.out ⟨r, n, none⟩ (.int .i64 x) hrb) 2 (.int .i64 ((n + 1 : Nat) : Int))
    simpa using this
  · have := blk_set_other (blk_set_same HR2.out n (.int .i64 x)) ⟨b, 2, none⟩ (.int .i64 ((n + 1 : Nat) : Int)) (Ne.symm hrb)
    simpa using this
  · exact ((((Keeps.refl _ _).andThen K0 (by simp)).andThen (Keeps.grown (Keeps.refl [b] _) hg (by simp)) (by simp)).andThen K2 (by simp)).setCell r n _ (.inr (by rw [HRW.out]; exact Nat.le_refl _)) |>.setCell b 2 _ (by simp)

end Go.Proofs.Ytoecfimmgiajpaa
