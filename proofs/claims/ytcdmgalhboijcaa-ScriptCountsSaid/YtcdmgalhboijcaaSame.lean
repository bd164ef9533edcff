/- The document's Same, of rows that are alike; its Word. -/
import Derived.Test.YtcdmgalhboijcaaKinds
import Derived.Deep.QuietTactic
import Derived.BigQuiet
namespace Go.Proofs.Ytcdmgalhboijcaa.Sc
open Go.RowKit Go.Shelf Go.Maps Go.Proofs.YtcdmgalhboijcaaW.PrintWords Go.Proofs.YtcdmgalhboijcaaW.PrintMore

set_option maxHeartbeats 4000000 in
set_option maxRecDepth 100000 in
theorem same_any (A0 A1 : Option Addr) (c0 c1 : Nat) (xs : List Jb) (w : World) (h0 : kJb.C w A0 xs.length xs) (hc0 : xs.length ≤ c0) (h1 : kJb.C w A1 xs.length xs) (hc1 : xs.length ≤ c1) :
    Calls Try.prog 13 #[.slice A0 xs.length c0, .slice A1 xs.length c1] w fun e w' => e = .returned (.bool true) ∧ Keeps [] w w' := by
  have H0 := Lib.hid h0
  have H1 := Lib.hid h1
  have hm := h0.2.1
  clear h0 h1
  go_enter Try.func13, Try.ntmps13
  go_wp2_with fail
  go_loopg [5] (xs.length) (fun gh iv wr => ∃ i : Nat, xs.length - i ≤ gh ∧ iv = .int .i64 i ∧ i ≤ xs.length ∧ Keeps [] w wr)
  case atStart => exact ⟨0, by omega, rfl, by omega, Keeps.refl _ _⟩
  case round =>
    obtain ⟨i, hgh, rfl, hil, hK⟩ := hrel
    have hB : Below w.heap.size w wr := hK.below (by simp) (Nat.le_refl _)
    have HK := Lib.hid hK
    clear hK
    by_cases hlt : i < xs.length
    · obtain ⟨x, hx⟩ : ∃ x, xs[i]? = some x := ⟨xs[i], by simp [hlt]⟩
      rcases c_addr (Kd.C_below H0.out hB) (by decide) with he | ⟨b0, o0, ha0⟩
      · rw [he] at hx; simp at hx
      rcases c_addr (Kd.C_below H1.out hB) (by decide) with he | ⟨b1, o1, ha1⟩
      · rw [he] at hx; simp at hx
      subst ha0 ha1
      obtain ⟨cs0, K0, hcell0⟩ := c_cells (Kd.C_below H0.out hB) i x hx
      obtain ⟨cs1, K1, hcell1⟩ := c_cells (Kd.C_below H1.out hB) i x hx
      obtain ⟨A4, c4, rfl, hl4, hC4⟩ := kJb_open K0
      obtain ⟨A5, c5, rfl, hl5, hC5⟩ := kJb_open K1
      have r0 : wr.cell? ⟨b0, o0 + i * 5, none⟩ = some (.int .i64 x.task) := hcell0 0 _ rfl
      have r1 : wr.cell? ⟨b0, o0 + i * 5 + 1, none⟩ = some (.int .i64 x.arrive) := hcell0 1 _ rfl
      have r2 : wr.cell? ⟨b0, o0 + i * 5 + 2, none⟩ = some (.int .i64 x.release) := hcell0 2 _ rfl
      have r3 : wr.cell? ⟨b0, o0 + i * 5 + 3, none⟩ = some (.int .i64 x.work) := hcell0 3 _ rfl
      have r4 : wr.cell? ⟨b0, o0 + i * 5 + 4, none⟩ = some (.slice A4 x.cuts.length c4) := hcell0 4 _ rfl
      have s0 : wr.cell? ⟨b1, o1 + i * 5, none⟩ = some (.int .i64 x.task) := hcell1 0 _ rfl
      have s1 : wr.cell? ⟨b1, o1 + i * 5 + 1, none⟩ = some (.int .i64 x.arrive) := hcell1 1 _ rfl
      have s2 : wr.cell? ⟨b1, o1 + i * 5 + 2, none⟩ = some (.int .i64 x.release) := hcell1 2 _ rfl
      have s3 : wr.cell? ⟨b1, o1 + i * 5 + 3, none⟩ = some (.int .i64 x.work) := hcell1 3 _ rfl
      have s4 : wr.cell? ⟨b1, o1 + i * 5 + 4, none⟩ = some (.slice A5 x.cuts.length c5) := hcell1 4 _ rfl
      have q0 : (x.task != x.task) = false := by simp
      have q1 : (x.arrive != x.arrive) = false := by simp
      have q2 : (x.release != x.release) = false := by simp
      have q3 : (x.work != x.work) = false := by simp
      have q4 : ((x.cuts.length : Int) != (x.cuts.length : Int)) = false := by simp
      have hlt' : (i : Int) < (xs.length : Int) := by omega
      have HC4 := Lib.hid hC4
      have HC5 := Lib.hid hC5
      clear hcell0 hcell1 hC4 hC5
      go_wp2_with fail
      go_quiet (fail)
      have hKw : Keeps [] wr (wr.drewN nq) := (Keeps.refl _ _).drewN nq
      have HK2 := Lib.hid (HK.out.trans hKw)
      have HC4b := Lib.hid (Kd.C_below HC4.out (hKw.below (by simp) (Nat.le_refl _)))
      have HC5b := Lib.hid (Kd.C_below HC5.out (hKw.below (by simp) (Nat.le_refl _)))
      have r4' : (wr.drewN nq).cell? ⟨b0, o0 + i * 5 + 4, none⟩ = some (.slice A4 x.cuts.length c4) := r4
      have s4' : (wr.drewN nq).cell? ⟨b1, o1 + i * 5 + 4, none⟩ = some (.slice A5 x.cuts.length c5) := s4
      clear r0 r1 r2 r3 r4 s0 s1 s2 s3 s4 q0 q1 q2 q3 q4 HC4 HC5 hKw K0 K1
      generalize wr.drewN nq = w2 at HK2 HC4b HC5b r4' s4' ⊢
      go_wp2_with fail
      go_loopg [6] (x.cuts.length) (fun gh jv wi => ∃ j : Nat, x.cuts.length - j ≤ gh ∧ jv = .int .i64 j ∧ j ≤ x.cuts.length ∧ Keeps [] w2 wi)
      case atStart => exact ⟨0, by omega, rfl, by omega, Keeps.refl _ _⟩
      case round =>
        obtain ⟨j, hgj, rfl, hjl, hKi⟩ := hrel
        have r4 := (World.cell?_of_block (hKi.block _ (World.block_lt_of_cell? _ _ r4') (by simp))).trans r4'
        have s4 := (World.cell?_of_block (hKi.block _ (World.block_lt_of_cell? _ _ s4') (by simp))).trans s4'
        have hBi : Below w2.heap.size w2 _ := hKi.below (by simp) (Nat.le_refl _)
        have HKI := Lib.hid (HK2.out.trans hKi)
        have HKJ := Lib.hid hKi
        clear r4' s4' hKi
        by_cases hj : j < x.cuts.length
        · obtain ⟨c, hc⟩ : ∃ c, x.cuts[j]? = some c := ⟨x.cuts[j], by simp [hj]⟩
          obtain ⟨ad0, ha0, hq0⟩ := at_int (Kd.C_below HC4b.out hBi) j c hc
          obtain ⟨ad1, ha1, hq1⟩ := at_int (Kd.C_below HC5b.out hBi) j c hc
          subst ha0 ha1
          have q5 : (c != c) = false := by simp
          have hj' : (j : Int) < (x.cuts.length : Int) := by omega
          have hjm : (j : Int) + 1 ≤ 9223372036854775807 := by have := HC4b.out.2.1; omega
          clear hBi
          go_wp2_with fail
          go_quiet (fail)
          go_wp2
          go_roundg (x.cuts.length - (j + 1))
          case rel => exact ⟨j + 1, Nat.le_refl _, by go_num, by omega, HKJ.out.drewN _⟩
          case measure => omega
        · have hd : decide (j < x.cuts.length) = false := by simpa using hj
          go_wp2
          go_roundg (xs.length - (i + 1))
          case rel => exact ⟨i + 1, Nat.le_refl _, by go_num, by omega, HKI.out⟩
          case measure => omega
    · have hd : decide (i < xs.length) = false := by simpa using hlt
      go_wp2
      go_ret
      exact ⟨rfl, HK.out⟩
end Go.Proofs.Ytcdmgalhboijcaa.Sc
/- The document's SameRaw, of rows that are alike. -/
namespace Go.Proofs.Ytcdmgalhboijcaa.Sc
open Go.RowKit Go.Shelf Go.Maps Go.Proofs.YtcdmgalhboijcaaW.PrintWords Go.Proofs.YtcdmgalhboijcaaW.PrintMore

set_option maxHeartbeats 4000000 in
set_option maxRecDepth 100000 in
theorem sameRaw_any (A0 A1 : Option Addr) (c0 c1 : Nat) (xs : List Rw) (w : World) (h0 : kRw.C w A0 xs.length xs) (hc0 : xs.length ≤ c0) (h1 : kRw.C w A1 xs.length xs) (hc1 : xs.length ≤ c1) :
    Calls Try.prog 36 #[.slice A0 xs.length c0, .slice A1 xs.length c1] w fun e w' => e = .returned (.bool true) ∧ Keeps [] w w' := by
  have H0 := Lib.hid h0
  have H1 := Lib.hid h1
  have hm := h0.2.1
  clear h0 h1
  go_enter Try.func36, Try.ntmps36
  go_wp2_with fail
  go_loopg [5] (xs.length) (fun gh iv wr => ∃ i : Nat, xs.length - i ≤ gh ∧ iv = .int .i64 i ∧ i ≤ xs.length ∧ Keeps [] w wr)
  case atStart => exact ⟨0, by omega, rfl, by omega, Keeps.refl _ _⟩
  case round =>
    obtain ⟨i, hgh, rfl, hil, hK⟩ := hrel
    have hB : Below w.heap.size w wr := hK.below (by simp) (Nat.le_refl _)
    have HK := Lib.hid hK
    clear hK
    by_cases hlt : i < xs.length
    · obtain ⟨x, hx⟩ : ∃ x, xs[i]? = some x := ⟨xs[i], by simp [hlt]⟩
      rcases c_addr (Kd.C_below H0.out hB) (by decide) with he | ⟨b0, o0, ha0⟩
      · rw [he] at hx; simp at hx
      rcases c_addr (Kd.C_below H1.out hB) (by decide) with he | ⟨b1, o1, ha1⟩
      · rw [he] at hx; simp at hx
      subst ha0 ha1
      obtain ⟨cs0, K0, hcell0⟩ := c_cells (Kd.C_below H0.out hB) i x hx
      obtain ⟨cs1, K1, hcell1⟩ := c_cells (Kd.C_below H1.out hB) i x hx
      obtain ⟨A4, c4, rfl, hl4, hC4⟩ := kRw_open K0
      obtain ⟨A5, c5, rfl, hl5, hC5⟩ := kRw_open K1
      have r0 : wr.cell? ⟨b0, o0 + i * 5, none⟩ = some (.int .i64 x.task) := hcell0 0 _ rfl
      have r1 : wr.cell? ⟨b0, o0 + i * 5 + 1, none⟩ = some (.int .i64 x.gap) := hcell0 1 _ rfl
      have r2 : wr.cell? ⟨b0, o0 + i * 5 + 2, none⟩ = some (.int .i64 x.late) := hcell0 2 _ rfl
      have r3 : wr.cell? ⟨b0, o0 + i * 5 + 3, none⟩ = some (.int .i64 x.work) := hcell0 3 _ rfl
      have r4 : wr.cell? ⟨b0, o0 + i * 5 + 4, none⟩ = some (.slice A4 x.cuts.length c4) := hcell0 4 _ rfl
      have s0 : wr.cell? ⟨b1, o1 + i * 5, none⟩ = some (.int .i64 x.task) := hcell1 0 _ rfl
      have s1 : wr.cell? ⟨b1, o1 + i * 5 + 1, none⟩ = some (.int .i64 x.gap) := hcell1 1 _ rfl
      have s2 : wr.cell? ⟨b1, o1 + i * 5 + 2, none⟩ = some (.int .i64 x.late) := hcell1 2 _ rfl
      have s3 : wr.cell? ⟨b1, o1 + i * 5 + 3, none⟩ = some (.int .i64 x.work) := hcell1 3 _ rfl
      have s4 : wr.cell? ⟨b1, o1 + i * 5 + 4, none⟩ = some (.slice A5 x.cuts.length c5) := hcell1 4 _ rfl
      have q0 : (x.task != x.task) = false := by simp
      have q1 : (x.gap != x.gap) = false := by simp
      have q2 : (x.late != x.late) = false := by simp
      have q3 : (x.work != x.work) = false := by simp
      have q4 : ((x.cuts.length : Int) != (x.cuts.length : Int)) = false := by simp
      have hlt' : (i : Int) < (xs.length : Int) := by omega
      have HC4 := Lib.hid hC4
      have HC5 := Lib.hid hC5
      clear hcell0 hcell1 hC4 hC5
      go_wp2_with fail
      go_quiet (fail)
      have hKw : Keeps [] wr (wr.drewN nq) := (Keeps.refl _ _).drewN nq
      have HK2 := Lib.hid (HK.out.trans hKw)
      have HC4b := Lib.hid (Kd.C_below HC4.out (hKw.below (by simp) (Nat.le_refl _)))
      have HC5b := Lib.hid (Kd.C_below HC5.out (hKw.below (by simp) (Nat.le_refl _)))
      have r4' : (wr.drewN nq).cell? ⟨b0, o0 + i * 5 + 4, none⟩ = some (.slice A4 x.cuts.length c4) := r4
      have s4' : (wr.drewN nq).cell? ⟨b1, o1 + i * 5 + 4, none⟩ = some (.slice A5 x.cuts.length c5) := s4
      clear r0 r1 r2 r3 r4 s0 s1 s2 s3 s4 q0 q1 q2 q3 q4 HC4 HC5 hKw K0 K1
      generalize wr.drewN nq = w2 at HK2 HC4b HC5b r4' s4' ⊢
      go_wp2_with fail
      go_loopg [6] (x.cuts.length) (fun gh jv wi => ∃ j : Nat, x.cuts.length - j ≤ gh ∧ jv = .int .i64 j ∧ j ≤ x.cuts.length ∧ Keeps [] w2 wi)
      case atStart => exact ⟨0, by omega, rfl, by omega, Keeps.refl _ _⟩
      case round =>
        obtain ⟨j, hgj, rfl, hjl, hKi⟩ := hrel
        have r4 := (World.cell?_of_block (hKi.block _ (World.block_lt_of_cell? _ _ r4') (by simp))).trans r4'
        have s4 := (World.cell?_of_block (hKi.block _ (World.block_lt_of_cell? _ _ s4') (by simp))).trans s4'
        have hBi : Below w2.heap.size w2 _ := hKi.below (by simp) (Nat.le_refl _)
        have HKI := Lib.hid (HK2.out.trans hKi)
        have HKJ := Lib.hid hKi
        clear r4' s4' hKi
        by_cases hj : j < x.cuts.length
        · obtain ⟨c, hc⟩ : ∃ c, x.cuts[j]? = some c := ⟨x.cuts[j], by simp [hj]⟩
          obtain ⟨ad0, ha0, hq0⟩ := at_int (Kd.C_below HC4b.out hBi) j c hc
          obtain ⟨ad1, ha1, hq1⟩ := at_int (Kd.C_below HC5b.out hBi) j c hc
          subst ha0 ha1
          have q5 : (c != c) = false := by simp
          have hj' : (j : Int) < (x.cuts.length : Int) := by omega
          have hjm : (j : Int) + 1 ≤ 9223372036854775807 := by have := HC4b.out.2.1; omega
          clear hBi
          go_wp2_with fail
          go_quiet (fail)
          go_wp2
          go_roundg (x.cuts.length - (j + 1))
          case rel => exact ⟨j + 1, Nat.le_refl _, by go_num, by omega, HKJ.out.drewN _⟩
          case measure => omega
        · have hd : decide (j < x.cuts.length) = false := by simpa using hj
          go_wp2
          go_roundg (xs.length - (i + 1))
          case rel => exact ⟨i + 1, Nat.le_refl _, by go_num, by omega, HKI.out⟩
          case measure => omega
    · have hd : decide (i < xs.length) = false := by simpa using hlt
      go_wp2
      go_ret
      exact ⟨rfl, HK.out⟩
end Go.Proofs.Ytcdmgalhboijcaa.Sc
