/- Queues of texts and of numbers: Len, At, Pop. -/
import Derived.Test.YtoecfimmgiajpaaPush
import Derived.Lib.SliceRun
namespace Go.Proofs.Ytoecfimmgiajpaa
open Go.RowKit

theorem wpList_clear {P : Program} {w w' : World} {ops : Array Oper} {rest : List Oper} {o : Oper} {a : Act} {Q : Exit → Act → World → Prop} {v r : Value}
    (hg : o.guard = none) (x : Operand) (t : TypeId) (hop : o.op = Op.call { callee := Callee.builtin Builtin.clear, args := #[x], argTypes := #[t] })
    (hx : a.eval x = v) (hrun : (Builtin.clear_ #[t] o.type #[v]).run P w = .ok r w') (hK : wpList P ops Q rest (a.put o.dst r) w') : wpList P ops Q (o :: rest) a w := by
  refine wpList_plain hg fun K hK' => ?_
  unfold Oper.wp
  simp [execOp, hop, resolve, invoke, builtin, hx, hrun, Result.andThen]
  exact hK' _ _ hK

theorem lenNilS (w : World) : Calls Try.prog 12 #[.pointer none] w fun e w' => e = .returned (.int .i64 0) ∧ w = w' := by
  go_enter Try.func12, Try.ntmps12
  go_wp2
  go_ret
  exact ⟨rfl, rfl⟩

theorem lenOfS (b : Nat) (n : Nat) (w : World) (h2 : w.cell? ⟨b, 2, none⟩ = some (.int .i64 n)) :
    Calls Try.prog 12 #[.pointer (some ⟨b, 0, none⟩)] w fun e w' => e = .returned (.int .i64 n) ∧ w = w' := by
  go_enter Try.func12, Try.ntmps12
  go_wp2
  go_ret
  exact ⟨rfl, rfl⟩

theorem atOutS (b : Nat) (n : Nat) (i : Int) (w : World) (hi : i < 0 ∨ n ≤ i) (h2 : w.cell? ⟨b, 2, none⟩ = some (.int .i64 n)) :
    Calls Try.prog 25 #[.pointer (some ⟨b, 0, none⟩), .int .i64 i] w fun e w' => e = .returned (.tuple #[.string ⟨#[]⟩, .bool false]) ∧ w = w' := by
  by_cases h0 : i < 0
  · go_enter Try.func25, Try.ntmps25
    go_wp2
    go_ret2
    exact ⟨rfl, rfl⟩
  · have h1 : (n : Int) ≤ i := by omega
    clear hi
    go_enter Try.func25, Try.ntmps25
    go_wp2_with (first | (go_at_call 12; refine (lenOfS _ _ _ h2).mono ?_; rintro e w' ⟨rfl, rfl⟩))
    go_ret2
    exact ⟨rfl, rfl⟩

theorem atInS (b r size frm n k : Nat) (i : Nat) (x : ByteArray) (w : World) (hi : i < n) (hn : n ≤ size) (hsz : size ≤ 3000000) (hfrm : frm < size) (hk : k = (frm + i) % size)
    (hb : w.heap[b]? = some (.cells #[.slice (some ⟨r, 0, none⟩) size size, .int .i64 frm, .int .i64 n] 54 (0, 0)))
    (hx : w.cell? ⟨r, k, none⟩ = some (.string x)) :
    Calls Try.prog 25 #[.pointer (some ⟨b, 0, none⟩), .int .i64 i] w fun e w' => e = .returned (.tuple #[.string x, .bool true]) ∧ w' = w.drew := by
  obtain ⟨h0, h1, h2, f0, f1, f2⟩ := facts3 hb
  clear hb
  have hks : k < size := by rw [hk]; exact Nat.mod_lt _ (by omega)
  have he2 : Hid (((frm : Int) + (i : Int)).tmod (size : Int) = (k : Int)) := by
    show _ = _
    rw [hk, Int.tmod_eq_emod_of_nonneg (by omega)]; simp
  clear hk
  have hi1 : ¬ (i : Int) < 0 := by omega
  have hi2 : ¬ (n : Int) ≤ (i : Int) := by omega
  have hz0 : ¬ size = 0 := by omega
  go_enter Try.func25, Try.ntmps25
  go_wp2_with (first | (go_at_call 12; refine (lenOfS _ _ _ h2).mono ?_; rintro e w' ⟨rfl, rfl⟩))
  have e1 : IntKind.i64.wrap ((frm : Int) + (i : Int)) = (frm : Int) + (i : Int) := IntWalk.i64_in _ (by omega)
  have e2 := he2.out
  have e3 : (k : Int) < (size : Int) := by omega
  go_still (by kernel_rfl)
  go_wp2
  go_ret2
  exact ⟨rfl, rfl⟩

theorem popNoneS (b : Nat) (w : World) (h2 : w.cell? ⟨b, 2, none⟩ = some (.int .i64 (0 : Nat))) :
    Calls Try.prog 11 #[.pointer (some ⟨b, 0, none⟩)] w fun e w' => e = .returned (.tuple #[.string ⟨#[]⟩, .bool false]) ∧ w = w' := by
  go_enter Try.func11, Try.ntmps11
  go_wp2_with (go_at_call 25; refine (atOutS b 0 0 _ (by omega) h2).mono ?_; rintro e w' ⟨rfl, rfl⟩)
  go_ret2
  exact ⟨rfl, rfl⟩

theorem zeroS (w : World) : (zeroValue 9).run Try.prog w = .ok (.string ⟨#[]⟩) w := by kernel_rfl

theorem popSomeS (b r size frm n k : Nat) (x : ByteArray) (cs : List Value) (w : World) (hn : 0 < n) (hns : n ≤ size) (hsz : size ≤ 3000000) (hfrm : frm < size) (hcs : cs.length = size) (hrb : r ≠ b) (hk : k = (frm + 1) % size)
    (hb : w.heap[b]? = some (.cells #[.slice (some ⟨r, 0, none⟩) size size, .int .i64 frm, .int .i64 n] 54 (0, 0)))
    (hr : w.heap[r]? = some (.cells cs.toArray 9 (0, 0))) (hx : cs[frm]? = some (.string x)) :
    Calls Try.prog 11 #[.pointer (some ⟨b, 0, none⟩)] w fun e w' => e = .returned (.tuple #[.string x, .bool true]) ∧
      w'.heap[b]? = some (.cells #[.slice (some ⟨r, 0, none⟩) size size, .int .i64 k, .int .i64 (n - 1 : Nat)] 54 (0, 0)) ∧
      w'.heap[r]? = some (.cells (cs.set frm (.string ⟨#[]⟩)).toArray 9 (0, 0)) ∧ Keeps [b, r] w w' := by
  have hks : k < size := by rw [hk]; exact Nat.mod_lt _ (by omega)
  have he2 : Hid (((frm : Int) + 1).tmod (size : Int) = (k : Int)) := by
    show _ = _
    rw [hk, Int.tmod_eq_emod_of_nonneg (by omega)]; simp
  clear hk
  have hz0 : ¬ size = 0 := by omega
  have hc : w.cell? ⟨r, frm, none⟩ = some (.string x) := by rw [cell_blk hr]; simpa using hx
  have HB := Lib.hid hb
  have HR := Lib.hid hr
  have HC := Lib.hid hcs
  clear hb hr hcs
  go_enter Try.func11, Try.ntmps11
  go_wp2_with fail
  refine (atInS b r size frm n frm 0 x _ hn hns hsz hfrm (by simp; rw [Nat.mod_eq_of_lt hfrm]) HB.out hc).mono ?_
  rintro e w1 ⟨rfl, rfl⟩
  go_wp2_with fail
  refine name_drew (w := w) ?_
  rintro w1 K1 -
  clear hc
  have hb1 := K1.blk HB.out (by simp)
  have hr1 := K1.blk HR.out (by simp)
  obtain ⟨g0, g1, g2, -, -, -⟩ := facts3 hb1
  have HB1 := Lib.hid hb1
  have HR1 := Lib.hid hr1
  clear hb1 hr1
  have e1 : IntKind.i64.wrap ((frm : Int) + 1) = (frm : Int) + 1 := IntWalk.i64_in _ (by omega)
  have e3 : (frm : Int) + 1 ≤ (size : Int) := by omega
  have e4 : (0 : Int) ≤ (frm : Int) + 1 := by omega
  have e5 : ((frm : Int) + 1).toNat = frm + 1 := by omega
  have e6 : ¬ size = frm := by omega
  go_still_tail 14, (by kernel_rfl)
  refine name_drew_list (w := w1) ?_
  rintro w2 K2 -
  clear g0 g1 g2 e1 e3 e4 e5
  have hb2 := K2.blk HB1.out (by simp)
  have hr2 := K2.blk HR1.out (by simp)
  have hlt : frm < cs.length := by rw [HC.out]; exact hfrm
  have hclr := Lib.run_clear_slice (P := Try.prog) w2 22 9 0 (.string ⟨#[]⟩) Try.underlying22 zeroS rfl rfl r frm 1 (size - frm) (by omega)
    (fun j hj => by obtain rfl : j = 0 := by omega
                    rw [Nat.add_zero, cell_blk hr2]; simp [hlt])
    (fun j hj => free_blk hr2 _)
  refine wpList_clear rfl _ 22 rfl rfl hclr ?_
  have hb3 := blk_set_other hb2 ⟨r, frm, none⟩ (.string ⟨#[]⟩) hrb
  have hr3 := blk_set_same hr2 frm (.string ⟨#[]⟩)
  have K3 : Keeps [b, r] w2 (w2.setCell ⟨r, frm, none⟩ (.string ⟨#[]⟩)) := (Keeps.refl _ _).setCell r frm _ (by simp)
  clear hb2 hr2 hclr
  change wpList _ _ _ _ _ (w2.setCell ⟨r, frm, none⟩ (.string ⟨#[]⟩))
  generalize w2.setCell ⟨r, frm, none⟩ (.string ⟨#[]⟩) = w3 at hb3 hr3 K3 ⊢
  obtain ⟨g0, g1, g2, d0, d1, d2⟩ := facts3 hb3
  have HB3 := Lib.hid hb3
  have HR3 := Lib.hid hr3
  clear hb3 hr3
  have e2 := he2.out
  have e3 : IntKind.i64.wrap ((frm : Int) + 1) = (frm : Int) + 1 := IntWalk.i64_in _ (by omega)
  have e4 : (k : Int) < (size : Int) := by omega
  go_wp2_with fail
  go_still_tail 13, (by kernel_rfl)
  refine name_drew_list (w := w3) ?_
  rintro w4 K4 -
  clear g0 g1 g2 d0 d1 d2 e2 e3
  have hb4 := K4.blk HB3.out (by simp)
  have hr4 := K4.blk HR3.out (by simp)
  obtain ⟨g0, g1, g2, d0, d1, d2⟩ := facts3 hb4
  have HB4 := Lib.hid hb4
  have HR4 := Lib.hid hr4
  clear hb4 hr4
  have hn1 : (1 : Int) ≤ (n : Int) := by omega
  go_wp2
  go_ret2
  have en : ((n : Int) - 1) = ((n - 1 : Nat) : Int) := by omega
  refine ⟨rfl, ?_, ?_, ?_⟩
  · have := blk_set_same (blk_set_same HB4.out 1 (.int .i64 (k : Int))) 2 (.int .i64 ((n : Int) - 1))
    rw [en] at this
    rw [en]
    simpa using this
  · have := blk_set_other (blk_set_other HR4.out ⟨b, 1, none⟩ (.int .i64 (k : Int)) (Ne.symm hrb)) ⟨b, 2, none⟩ (.int .i64 ((n : Int) - 1)) (Ne.symm hrb)
    simpa using this
  · exact ((((((Keeps.refl _ _).andThen K1 (by simp)).andThen K2 (by simp)).trans K3).andThen K4 (by simp)).setCell b 1 _ (by simp)).setCell b 2 _ (by simp)

theorem lenNilI (w : World) : Calls Try.prog 16 #[.pointer none] w fun e w' => e = .returned (.int .i64 0) ∧ w = w' := by
  go_enter Try.func16, Try.ntmps16
  go_wp2
  go_ret
  exact ⟨rfl, rfl⟩

theorem lenOfI (b : Nat) (n : Nat) (w : World) (h2 : w.cell? ⟨b, 2, none⟩ = some (.int .i64 n)) :
    Calls Try.prog 16 #[.pointer (some ⟨b, 0, none⟩)] w fun e w' => e = .returned (.int .i64 n) ∧ w = w' := by
  go_enter Try.func16, Try.ntmps16
  go_wp2
  go_ret
  exact ⟨rfl, rfl⟩

theorem atOutI (b : Nat) (n : Nat) (i : Int) (w : World) (hi : i < 0 ∨ n ≤ i) (h2 : w.cell? ⟨b, 2, none⟩ = some (.int .i64 n)) :
    Calls Try.prog 20 #[.pointer (some ⟨b, 0, none⟩), .int .i64 i] w fun e w' => e = .returned (.tuple #[.int .i64 0, .bool false]) ∧ w = w' := by
  by_cases h0 : i < 0
  · go_enter Try.func20, Try.ntmps20
    go_wp2
    go_ret2
    exact ⟨rfl, rfl⟩
  · have h1 : (n : Int) ≤ i := by omega
    clear hi
    go_enter Try.func20, Try.ntmps20
    go_wp2_with (first | (go_at_call 16; refine (lenOfI _ _ _ h2).mono ?_; rintro e w' ⟨rfl, rfl⟩))
    go_ret2
    exact ⟨rfl, rfl⟩

theorem atInI (b r size frm n k : Nat) (i : Nat) (x : Int) (w : World) (hi : i < n) (hn : n ≤ size) (hsz : size ≤ 3000000) (hfrm : frm < size) (hk : k = (frm + i) % size)
    (hb : w.heap[b]? = some (.cells #[.slice (some ⟨r, 0, none⟩) size size, .int .i64 frm, .int .i64 n] 45 (0, 0)))
    (hx : w.cell? ⟨r, k, none⟩ = some (.int .i64 x)) :
    Calls Try.prog 20 #[.pointer (some ⟨b, 0, none⟩), .int .i64 i] w fun e w' => e = .returned (.tuple #[.int .i64 x, .bool true]) ∧ w' = w.drew := by
  obtain ⟨h0, h1, h2, f0, f1, f2⟩ := facts3 hb
  clear hb
  have hks : k < size := by rw [hk]; exact Nat.mod_lt _ (by omega)
  have he2 : Hid (((frm : Int) + (i : Int)).tmod (size : Int) = (k : Int)) := by
    show _ = _
    rw [hk, Int.tmod_eq_emod_of_nonneg (by omega)]; simp
  clear hk
  have hi1 : ¬ (i : Int) < 0 := by omega
  have hi2 : ¬ (n : Int) ≤ (i : Int) := by omega
  have hz0 : ¬ size = 0 := by omega
  go_enter Try.func20, Try.ntmps20
  go_wp2_with (first | (go_at_call 16; refine (lenOfI _ _ _ h2).mono ?_; rintro e w' ⟨rfl, rfl⟩))
  have e1 : IntKind.i64.wrap ((frm : Int) + (i : Int)) = (frm : Int) + (i : Int) := IntWalk.i64_in _ (by omega)
  have e2 := he2.out
  have e3 : (k : Int) < (size : Int) := by omega
  go_still (by kernel_rfl)
  go_wp2
  go_ret2
  exact ⟨rfl, rfl⟩

theorem popNoneI (b : Nat) (w : World) (h2 : w.cell? ⟨b, 2, none⟩ = some (.int .i64 (0 : Nat))) :
    Calls Try.prog 17 #[.pointer (some ⟨b, 0, none⟩)] w fun e w' => e = .returned (.tuple #[.int .i64 0, .bool false]) ∧ w = w' := by
  go_enter Try.func17, Try.ntmps17
  go_wp2_with (go_at_call 20; refine (atOutI b 0 0 _ (by omega) h2).mono ?_; rintro e w' ⟨rfl, rfl⟩)
  go_ret2
  exact ⟨rfl, rfl⟩

theorem zeroI (w : World) : (zeroValue 3).run Try.prog w = .ok (.int .i64 0) w := by kernel_rfl

theorem popSomeI (b r size frm n k : Nat) (x : Int) (cs : List Value) (w : World) (hn : 0 < n) (hns : n ≤ size) (hsz : size ≤ 3000000) (hfrm : frm < size) (hcs : cs.length = size) (hrb : r ≠ b) (hk : k = (frm + 1) % size)
    (hb : w.heap[b]? = some (.cells #[.slice (some ⟨r, 0, none⟩) size size, .int .i64 frm, .int .i64 n] 45 (0, 0)))
    (hr : w.heap[r]? = some (.cells cs.toArray 3 (0, 0))) (hx : cs[frm]? = some (.int .i64 x)) :
    Calls Try.prog 17 #[.pointer (some ⟨b, 0, none⟩)] w fun e w' => e = .returned (.tuple #[.int .i64 x, .bool true]) ∧
      w'.heap[b]? = some (.cells #[.slice (some ⟨r, 0, none⟩) size size, .int .i64 k, .int .i64 (n - 1 : Nat)] 45 (0, 0)) ∧
      w'.heap[r]? = some (.cells (cs.set frm (.int .i64 0)).toArray 3 (0, 0)) ∧ Keeps [b, r] w w' := by
  have hks : k < size := by rw [hk]; exact Nat.mod_lt _ (by omega)
  have he2 : Hid (((frm : Int) + 1).tmod (size : Int) = (k : Int)) := by
    show _ = _
    rw [hk, Int.tmod_eq_emod_of_nonneg (by omega)]; simp
  clear hk
  have hz0 : ¬ size = 0 := by omega
  have hc : w.cell? ⟨r, frm, none⟩ = some (.int .i64 x) := by rw [cell_blk hr]; simpa using hx
  have HB := Lib.hid hb
  have HR := Lib.hid hr
  have HC := Lib.hid hcs
  clear hb hr hcs
  go_enter Try.func17, Try.ntmps17
  go_wp2_with fail
  refine (atInI b r size frm n frm 0 x _ hn hns hsz hfrm (by simp; rw [Nat.mod_eq_of_lt hfrm]) HB.out hc).mono ?_
  rintro e w1 ⟨rfl, rfl⟩
  go_wp2_with fail
  refine name_drew (w := w) ?_
  rintro w1 K1 -
  clear hc
  have hb1 := K1.blk HB.out (by simp)
  have hr1 := K1.blk HR.out (by simp)
  obtain ⟨g0, g1, g2, -, -, -⟩ := facts3 hb1
  have HB1 := Lib.hid hb1
  have HR1 := Lib.hid hr1
  clear hb1 hr1
  have e1 : IntKind.i64.wrap ((frm : Int) + 1) = (frm : Int) + 1 := IntWalk.i64_in _ (by omega)
  have e3 : (frm : Int) + 1 ≤ (size : Int) := by omega
  have e4 : (0 : Int) ≤ (frm : Int) + 1 := by omega
  have e5 : ((frm : Int) + 1).toNat = frm + 1 := by omega
  have e6 : ¬ size = frm := by omega
  go_still_tail 14, (by kernel_rfl)
  refine name_drew_list (w := w1) ?_
  rintro w2 K2 -
  clear g0 g1 g2 e1 e3 e4 e5
  have hb2 := K2.blk HB1.out (by simp)
  have hr2 := K2.blk HR1.out (by simp)
  have hlt : frm < cs.length := by rw [HC.out]; exact hfrm
  have hclr := Lib.run_clear_slice (P := Try.prog) w2 39 3 0 (.int .i64 0) Try.underlying39 zeroI rfl rfl r frm 1 (size - frm) (by omega)
    (fun j hj => by obtain rfl : j = 0 := by omega
                    rw [Nat.add_zero, cell_blk hr2]; simp [hlt])
    (fun j hj => free_blk hr2 _)
  refine wpList_clear rfl _ 39 rfl rfl hclr ?_
  have hb3 := blk_set_other hb2 ⟨r, frm, none⟩ (.int .i64 0) hrb
  have hr3 := blk_set_same hr2 frm (.int .i64 0)
  have K3 : Keeps [b, r] w2 (w2.setCell ⟨r, frm, none⟩ (.int .i64 0)) := (Keeps.refl _ _).setCell r frm _ (by simp)
  clear hb2 hr2 hclr
  change wpList _ _ _ _ _ (w2.setCell ⟨r, frm, none⟩ (.int .i64 0))
  generalize w2.setCell ⟨r, frm, none⟩ (.int .i64 0) = w3 at hb3 hr3 K3 ⊢
  obtain ⟨g0, g1, g2, d0, d1, d2⟩ := facts3 hb3
  have HB3 := Lib.hid hb3
  have HR3 := Lib.hid hr3
  clear hb3 hr3
  have e2 := he2.out
  have e3 : IntKind.i64.wrap ((frm : Int) + 1) = (frm : Int) + 1 := IntWalk.i64_in _ (by omega)
  have e4 : (k : Int) < (size : Int) := by omega
  go_wp2_with fail
  go_still_tail 13, (by kernel_rfl)
  refine name_drew_list (w := w3) ?_
  rintro w4 K4 -
  clear g0 g1 g2 d0 d1 d2 e2 e3
  have hb4 := K4.blk HB3.out (by simp)
  have hr4 := K4.blk HR3.out (by simp)
  obtain ⟨g0, g1, g2, d0, d1, d2⟩ := facts3 hb4
  have HB4 := Lib.hid hb4
  have HR4 := Lib.hid hr4
  clear hb4 hr4
  have hn1 : (1 : Int) ≤ (n : Int) := by omega
  go_wp2
  go_ret2
  have en : ((n : Int) - 1) = ((n - 1 : Nat) : Int) := by omega
  refine ⟨rfl, ?_, ?_, ?_⟩
  · have := blk_set_same (blk_set_same HB4.out 1 (.int .i64 (k : Int))) 2 (.int .i64 ((n : Int) - 1))
    rw [en] at this
    rw [en]
    simpa using this
  · have := blk_set_other (blk_set_other HR4.out ⟨b, 1, none⟩ (.int .i64 (k : Int)) (Ne.symm hrb)) ⟨b, 2, none⟩ (.int .i64 ((n : Int) - 1)) (Ne.symm hrb)
    simpa using this
  · exact ((((((Keeps.refl _ _).andThen K1 (by simp)).andThen K2 (by simp)).trans K3).andThen K4 (by simp)).setCell b 1 _ (by simp)).setCell b 2 _ (by simp)

end Go.Proofs.Ytoecfimmgiajpaa
