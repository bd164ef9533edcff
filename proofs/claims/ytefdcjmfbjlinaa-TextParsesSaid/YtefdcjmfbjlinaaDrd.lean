/- The document's reader: kind, place, text; field. -/
import Derived.Test.YtefdcjmfbjlinaaParse
namespace Go.Proofs.Ytefdcjmfbjlinaa.Sc
open Go.RowKit Go.Shelf Go.Maps

def rdD (A : Option Addr) (n cap k e : Nat) : Obj := .cells #[.slice A n cap, .int .i64 (k : Nat), .int .i64 (e : Nat)] 69 (0, 0)
theorem rdD_step {w : World} {R : Nat} {A : Option Addr} {n cap k e : Nat} (h : w.heap[R]? = some (rdD A n cap k e)) : (w.setCell ⟨R, 1, none⟩ (.int .i64 ((k : Int) + 1))).heap[R]? = some (rdD A n cap (k + 1) e) := by
  rw [blk_set_same h 1 (.int .i64 ((k : Int) + 1))]
  simp [rdD]

set_option maxHeartbeats 1000000 in
set_option maxRecDepth 100000 in
theorem kindD_any (R : Nat) (A : Option Addr) (cap k e : Nat) (ts : List Tk) (w : World) (hR : w.heap[R]? = some (rdD A ts.length cap k e)) (hT : RowTk w A ts) :
    Calls Try.prog 29 #[.pointer (some ⟨R, 0, none⟩)] w fun r w' => r = .returned (.int .i64 (hereT ts k e).kind) ∧ Keeps [] w w' := by
  obtain ⟨h0, h1, h2, -, -, -⟩ := facts3 hR
  obtain ⟨L, hL⟩ : ∃ L, ts.length = L := ⟨_, rfl⟩
  rw [hL] at h0
  have HL := Lib.hid hL
  have HT := Lib.hid hT
  have HR := Lib.hid hR
  clear hL hT hR
  rcases Nat.lt_or_ge k L with hlt | hge
  · obtain ⟨t, ht⟩ : ∃ t, ts[k]? = some t := ⟨ts[k]'(by rw [HL.out]; exact hlt), by simp⟩
    obtain ⟨b, o, rfl, hc⟩ := HT.out k t ht
    have c0 := hc 0 _ rfl
    try rw [Nat.add_zero] at c0
    have hd : decide (L ≤ k) = false := by simp; omega
    have hk1 : (k : Int) < (L : Int) := by omega
    have HH := Lib.hid (hereT_in (e := e) ht)
    clear hc ht
    go_enter Try.func29, Try.ntmps29
    go_wp2_with fail
    go_quiet (fail)
    go_wp2_with fail
    go_quiet (fail)
    go_wp2
    go_ret
    exact ⟨by rw [HH.out]; first | rfl | simp, ((Keeps.refl _ _).drewN _).drewN _⟩
  · have hd : decide (L ≤ k) = true := by simpa using hge
    have HH := Lib.hid (hereT_out (ts := ts) (k := k) (e := e) (by rw [HL.out]; exact hge))
    go_enter Try.func29, Try.ntmps29
    go_wp2_with fail
    go_quiet (fail)
    go_wp2_with fail
    go_ret
    exact ⟨by rw [HH.out]; first | rfl | simp, (Keeps.refl _ _).drewN _⟩

set_option maxHeartbeats 1000000 in
set_option maxRecDepth 100000 in
theorem textD_any (R : Nat) (A : Option Addr) (cap k e : Nat) (ts : List Tk) (w : World) (hR : w.heap[R]? = some (rdD A ts.length cap k e)) (hT : RowTk w A ts) :
    Calls Try.prog 40 #[.pointer (some ⟨R, 0, none⟩)] w fun r w' => r = .returned (.string ⟨(hereT ts k e).text.toArray⟩) ∧ Keeps [] w w' := by
  obtain ⟨h0, h1, h2, -, -, -⟩ := facts3 hR
  obtain ⟨L, hL⟩ : ∃ L, ts.length = L := ⟨_, rfl⟩
  rw [hL] at h0
  have HL := Lib.hid hL
  have HT := Lib.hid hT
  have HR := Lib.hid hR
  clear hL hT hR
  rcases Nat.lt_or_ge k L with hlt | hge
  · obtain ⟨t, ht⟩ : ∃ t, ts[k]? = some t := ⟨ts[k]'(by rw [HL.out]; exact hlt), by simp⟩
    obtain ⟨b, o, rfl, hc⟩ := HT.out k t ht
    have c0 := hc 2 _ rfl
    try rw [Nat.add_zero] at c0
    have hd : decide (L ≤ k) = false := by simp; omega
    have hk1 : (k : Int) < (L : Int) := by omega
    have HH := Lib.hid (hereT_in (e := e) ht)
    clear hc ht
    go_enter Try.func40, Try.ntmps40
    go_wp2_with fail
    go_quiet (fail)
    go_wp2_with fail
    go_quiet (fail)
    go_wp2
    go_ret
    exact ⟨by rw [HH.out]; first | rfl | simp, ((Keeps.refl _ _).drewN _).drewN _⟩
  · have hd : decide (L ≤ k) = true := by simpa using hge
    have HH := Lib.hid (hereT_out (ts := ts) (k := k) (e := e) (by rw [HL.out]; exact hge))
    go_enter Try.func40, Try.ntmps40
    go_wp2_with fail
    go_quiet (fail)
    go_wp2_with fail
    go_ret
    exact ⟨by rw [HH.out]; first | rfl | simp, (Keeps.refl _ _).drewN _⟩

set_option maxHeartbeats 1000000 in
set_option maxRecDepth 100000 in
theorem placeD_any (R : Nat) (A : Option Addr) (cap k e : Nat) (ts : List Tk) (w : World) (hR : w.heap[R]? = some (rdD A ts.length cap k e)) (hT : RowTk w A ts) :
    Calls Try.prog 31 #[.pointer (some ⟨R, 0, none⟩)] w fun r w' => r = .returned (.int .i64 (hereT ts k e).at_) ∧ Keeps [] w w' := by
  obtain ⟨h0, h1, h2, -, -, -⟩ := facts3 hR
  obtain ⟨L, hL⟩ : ∃ L, ts.length = L := ⟨_, rfl⟩
  rw [hL] at h0
  have HL := Lib.hid hL
  have HT := Lib.hid hT
  have HR := Lib.hid hR
  clear hL hT hR
  rcases Nat.lt_or_ge k L with hlt | hge
  · obtain ⟨t, ht⟩ : ∃ t, ts[k]? = some t := ⟨ts[k]'(by rw [HL.out]; exact hlt), by simp⟩
    obtain ⟨b, o, rfl, hc⟩ := HT.out k t ht
    have c0 := hc 1 _ rfl
    try rw [Nat.add_zero] at c0
    have hd : decide (L ≤ k) = false := by simp; omega
    have hk1 : (k : Int) < (L : Int) := by omega
    have HH := Lib.hid (hereT_in (e := e) ht)
    clear hc ht
    go_enter Try.func31, Try.ntmps31
    go_wp2_with fail
    go_quiet (fail)
    go_wp2_with fail
    go_quiet (fail)
    go_wp2
    go_ret
    exact ⟨by rw [HH.out]; first | rfl | simp, ((Keeps.refl _ _).drewN _).drewN _⟩
  · have hd : decide (L ≤ k) = true := by simpa using hge
    have HH := Lib.hid (hereT_out (ts := ts) (k := k) (e := e) (by rw [HL.out]; exact hge))
    go_enter Try.func31, Try.ntmps31
    go_wp2_with fail
    go_quiet (fail)
    go_wp2_with fail
    go_ret
    exact ⟨by rw [HH.out]; first | rfl | simp, (Keeps.refl _ _).drewN _⟩
end Go.Proofs.Ytefdcjmfbjlinaa.Sc
