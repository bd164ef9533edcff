/- text's reader: what stands there, what is taken, whether a line ends. -/
import Derived.Test.YtefdcjmfbjlinaaDoorLex2
import Derived.BigQuiet
import Derived.Deep.QuietTactic
import Derived.IntWalk
import Derived.Deep.DeepCutAuto
import Derived.Deep.RegionHeld3
namespace Go.Proofs.YtefdcjmfbjlinaaDoor.Sc
open Go.RowKit Go.Shelf

/-- Tokens in a slice, read. -/
def RowTk (w : World) (A : Option Addr) (ts : List Tk) : Prop := ∀ i t, ts[i]? = some t → ∃ b o, A = some ⟨b, o, none⟩ ∧ ∀ r u, (cellsT t)[r]? = some u → w.cell? ⟨b, o + i * 4 + r, none⟩ = some u
theorem RowTk.keeps {w w' : World} {F : List Nat} {A : Option Addr} {ts : List Tk} (h : RowTk w A ts) (k : Keeps F w w') (hF : ∀ a, A = some a → a.block ∉ F) : RowTk w' A ts := by
  intro i x hx
  obtain ⟨b, o, h1, h3⟩ := h i x hx
  refine ⟨b, o, h1, fun r u hu => ?_⟩
  have := h3 r u hu
  rw [← this]
  exact World.cell?_of_block (k.block _ (World.block_lt_of_cell? _ _ this) (show b ∉ F from hF _ h1))
def endTk (e : Nat) : Tk := ⟨0, e, [], 0⟩
/-- The token that stands at a place; at the end one of no kind. -/
def hereT (ts : List Tk) (k e : Nat) : Tk := (ts[k]?).getD (endTk e)
theorem hereT_in {ts : List Tk} {k e : Nat} {t : Tk} (h : ts[k]? = some t) : hereT ts k e = t := by unfold hereT; rw [h]; rfl
theorem hereT_out {ts : List Tk} {k e : Nat} (h : ts.length ≤ k) : hereT ts k e = endTk e := by unfold hereT; rw [List.getElem?_eq_none h]; rfl
/-- A reader: the tokens' slice, the place, the text's length. -/
def rdO (A : Option Addr) (n cap k e : Nat) : Obj := .cells #[.slice A n cap, .int .i64 (k : Nat), .int .i64 (e : Nat)] 67 (0, 0)
theorem tkV_end (e : Nat) : tkV (endTk e) = .agg #[.int .i64 (0 : Nat), .int .i64 (e : Nat), .string ⟨#[]⟩, .int .i64 (0 : Nat)] := rfl

theorem facts4 {w : World} {b : Nat} {x y z u : Value} {T : TypeId} (h : w.heap[b]? = some (.cells #[x, y, z, u] T (0, 0))) :
    w.cell? ⟨b, 0, none⟩ = some x ∧ w.cell? ⟨b, 1, none⟩ = some y ∧ w.cell? ⟨b, 2, none⟩ = some z ∧ w.cell? ⟨b, 3, none⟩ = some u ∧
    w.frozen? ⟨b, 0, none⟩ = false ∧ w.frozen? ⟨b, 1, none⟩ = false ∧ w.frozen? ⟨b, 2, none⟩ = false ∧ w.frozen? ⟨b, 3, none⟩ = false :=
  ⟨cell_blk h 0, cell_blk h 1, cell_blk h 2, cell_blk h 3, free_blk h 0, free_blk h 1, free_blk h 2, free_blk h 3⟩

set_option maxHeartbeats 1000000 in
set_option maxRecDepth 100000 in
theorem here_any (R : Nat) (A : Option Addr) (cap k e : Nat) (ts : List Tk) (w : World) (hR : w.heap[R]? = some (rdO A ts.length cap k e)) (hT : RowTk w A ts) :
    Calls Tryd.prog 33 #[.pointer (some ⟨R, 0, none⟩)] w fun r w' => r = .returned (tkV (hereT ts k e)) ∧ Keeps [] w w' := by
  have K0 : Keeps [] w (w.alloc (.cells #[.int .i64 0, .int .i64 0, .string ⟨#[]⟩, .int .i64 0] 69)) := (Keeps.refl _ _).alloc _
  have hR0 := K0.blk hR (by simp)
  have hT0 := hT.keeps K0 (by simp)
  have hb0 := blk_new w (.cells #[.int .i64 0, .int .i64 0, .string ⟨#[]⟩, .int .i64 0] 69)
  obtain ⟨B, hB⟩ : ∃ B, B = w.heap.size := ⟨_, rfl⟩
  have hBR : B ≠ R := by have := blk_lt hR; omega
  rw [← hB] at hb0
  have HB := Lib.hid hB
  clear hR hT
  go_enter Tryd.func33, Tryd.ntmps33
  go_wp2_with fail
  rw [← HB.out]
  clear hB
  generalize w.alloc (.cells #[.int .i64 0, .int .i64 0, .string ⟨#[]⟩, .int .i64 0] 69) = w0 at K0 hR0 hT0 hb0 ⊢
  obtain ⟨h0, h1, h2, -, -, -⟩ := facts3 hR0
  generalize hL : ts.length = L at *
  have HL := Lib.hid hL
  clear hL
  rcases Nat.lt_or_ge k L with hlt | hge
  · obtain ⟨t, ht⟩ : ∃ t, ts[k]? = some t := ⟨ts[k]'(by rw [HL.out]; exact hlt), by simp⟩
    obtain ⟨b, o, rfl, hc⟩ := hT0 k t ht
    have c0 := hc 0 _ rfl
    rw [Nat.add_zero] at c0
    have c1 := hc 1 _ rfl
    have c2 := hc 2 _ rfl
    have c3 := hc 3 _ rfl
    have hd : decide (L ≤ k) = false := by simp; omega
    have hk1 : (k : Int) < (L : Int) := by omega
    have HT := Lib.hid (hereT_in (e := e) ht)
    clear hc ht hT0
    go_still (by kernel_rfl)
    go_wp2_with fail
    refine name_drew (w := w0) ?_
    rintro w1 K1 -
    have hb1 := K1.blk hb0 (by simp)
    have c0 := (World.cell?_of_block (a := ⟨b, o + k * 4, none⟩) (K1.block _ (World.block_lt_of_cell? _ _ c0) (by simp))).trans c0
    have c1 := (World.cell?_of_block (a := ⟨b, o + k * 4 + 1, none⟩) (K1.block _ (World.block_lt_of_cell? _ _ c1) (by simp))).trans c1
    have c2 := (World.cell?_of_block (a := ⟨b, o + k * 4 + 2, none⟩) (K1.block _ (World.block_lt_of_cell? _ _ c2) (by simp))).trans c2
    have c3 := (World.cell?_of_block (a := ⟨b, o + k * 4 + 3, none⟩) (K1.block _ (World.block_lt_of_cell? _ _ c3) (by simp))).trans c3
    obtain ⟨h0, h1, h2, -, -, -⟩ := facts3 (K1.blk hR0 (by simp))
    have K1' := K0.trans K1
    clear K1 hb0 hR0
    go_still_tail 10, (by kernel_rfl)
    refine name_drew_list (w := w1) ?_
    rintro w2 K2 -
    obtain ⟨d0, d1, d2, d3, f0, f1, f2, f3⟩ := facts4 (K2.blk hb1 (by simp))
    go_wp2
    refine bodyPost_ret (v := tkV t) (by simp [results, Tryd.results33, go_sem, tkV, d0, d1, d2, d3]) rfl ⟨by rw [HT.out], ?_⟩
    have hBw : w.heap.size ≤ B := by have := HB.out; omega
    exact ((((K1'.trans K2).setCell B 0 _ (.inr hBw)).setCell B 1 _ (.inr hBw)).setCell B 2 _ (.inr hBw)).setCell B 3 _ (.inr hBw)
  · have hd : decide (L ≤ k) = true := by simpa using hge
    have HT := Lib.hid (hereT_out (ts := ts) (k := k) (e := e) (by rw [HL.out]; exact hge))
    obtain ⟨d0, d1, d2, d3, f0, f1, f2, f3⟩ := facts4 hb0
    go_still (by kernel_rfl)
    go_wp2
    refine bodyPost_ret (v := tkV (endTk e)) (by simp [results, Tryd.results33, go_sem, tkV_end, d0, d1, d2, d3]) rfl ⟨by rw [HT.out], ?_⟩
    have hBw : w.heap.size ≤ B := by have := HB.out; omega
    exact (((K0.drew.setCell B 0 _ (.inr hBw)).setCell B 1 _ (.inr hBw)).setCell B 2 _ (.inr hBw)).setCell B 3 _ (.inr hBw)

set_option maxHeartbeats 1000000 in
set_option maxRecDepth 100000 in
theorem take_no (R : Nat) (A : Option Addr) (cap k e kd : Nat) (ts : List Tk) (w : World) (hR : w.heap[R]? = some (rdO A ts.length cap k e)) (hT : RowTk w A ts) (hd : (hereT ts k e).kind ≠ kd) :
    Calls Tryd.prog 31 #[.pointer (some ⟨R, 0, none⟩), .int .i64 (kd : Nat)] w fun r w' => r = .returned (.tuple #[tkV (hereT ts k e), .bool false]) ∧ Keeps [] w w' := by
  have K0 : Keeps [] w (w.alloc (.cells #[.int .i64 0, .int .i64 0, .string ⟨#[]⟩, .int .i64 0] 69)) := (Keeps.refl _ _).alloc _
  have hR0 := K0.blk hR (by simp)
  have hT0 := hT.keeps K0 (by simp)
  have hb0 := blk_new w (.cells #[.int .i64 0, .int .i64 0, .string ⟨#[]⟩, .int .i64 0] 69)
  obtain ⟨B, hB⟩ : ∃ B, B = w.heap.size := ⟨_, rfl⟩
  rw [← hB] at hb0
  have HB := Lib.hid hB
  have HR := Lib.hid hR0
  have HT := Lib.hid hT0
  clear hR hT hR0 hT0
  go_enter Tryd.func31, Tryd.ntmps31
  go_wp2_with fail
  rw [← HB.out]
  clear hB
  generalize w.alloc (.cells #[.int .i64 0, .int .i64 0, .string ⟨#[]⟩, .int .i64 0] 69) = w0 at K0 HR HT hb0 ⊢
  refine (here_any R A cap k e ts _ HR.out HT.out).mono ?_
  rintro r w1 ⟨rfl, K1⟩
  obtain ⟨t, ht⟩ : ∃ t, hereT ts k e = t := ⟨_, rfl⟩
  rw [ht] at hd ⊢
  obtain ⟨kd1, at1, tx1, nu1⟩ := t
  have HE := Lib.hid ht
  clear ht
  have hd2 : ((kd1 : Int) != (kd : Int)) = true := by simp at hd ⊢; omega
  simp only [tkV]
  have hb1 := K1.blk hb0 (by simp)
  have K01 := K0.trans K1
  clear K0 K1 hb0 HR HT hd
  obtain ⟨d0, d1, d2, d3, f0, f1, f2, f3⟩ := facts4 (blk_alloc hb1 (.cells #[.int .i64 kd1, .int .i64 at1, .string ⟨tx1.toArray⟩, .int .i64 nu1] 69))
  go_wp2
  refine bodyPost_ret (v := .tuple #[tkV ⟨kd1, at1, tx1, nu1⟩, .bool false]) (by simp [results, Tryd.results31, go_sem, tkV, d0, d1, d2, d3]) rfl ⟨by rw [HE.out], ?_⟩
  have hBw : w.heap.size ≤ B := by have := HB.out; omega
  exact ((((K01.alloc _).setCell B 0 _ (.inr hBw)).setCell B 1 _ (.inr hBw)).setCell B 2 _ (.inr hBw)).setCell B 3 _ (.inr hBw)

set_option maxHeartbeats 1000000 in
set_option maxRecDepth 100000 in
theorem take_yes (R : Nat) (A : Option Addr) (cap k e kd : Nat) (ts : List Tk) (w : World) (hR : w.heap[R]? = some (rdO A ts.length cap k e)) (hT : RowTk w A ts) (hk : k ≤ 1000000) (hd : (hereT ts k e).kind = kd) :
    Calls Tryd.prog 31 #[.pointer (some ⟨R, 0, none⟩), .int .i64 (kd : Nat)] w fun r w' => r = .returned (.tuple #[tkV (hereT ts k e), .bool true]) ∧ w'.heap[R]? = some (rdO A ts.length cap (k + 1) e) ∧ Keeps [R] w w' := by
  have K0 : Keeps [] w (w.alloc (.cells #[.int .i64 0, .int .i64 0, .string ⟨#[]⟩, .int .i64 0] 69)) := (Keeps.refl _ _).alloc _
  have hR0 := K0.blk hR (by simp)
  have hT0 := hT.keeps K0 (by simp)
  have hb0 := blk_new w (.cells #[.int .i64 0, .int .i64 0, .string ⟨#[]⟩, .int .i64 0] 69)
  obtain ⟨B, hB⟩ : ∃ B, B = w.heap.size := ⟨_, rfl⟩
  have hBR : B ≠ R := by have := blk_lt hR; omega
  rw [← hB] at hb0
  have HB := Lib.hid hB
  have HR := Lib.hid hR0
  have HT := Lib.hid hT0
  clear hR hT hR0 hT0
  go_enter Tryd.func31, Tryd.ntmps31
  go_wp2_with fail
  rw [← HB.out]
  clear hB
  generalize w.alloc (.cells #[.int .i64 0, .int .i64 0, .string ⟨#[]⟩, .int .i64 0] 69) = w0 at K0 HR HT hb0 ⊢
  refine (here_any R A cap k e ts _ HR.out HT.out).mono ?_
  rintro r w1 ⟨rfl, K1⟩
  obtain ⟨t, ht⟩ : ∃ t, hereT ts k e = t := ⟨_, rfl⟩
  rw [ht] at hd ⊢
  obtain ⟨kd1, at1, tx1, nu1⟩ := t
  have HE := Lib.hid ht
  clear ht
  obtain rfl : kd1 = kd := hd
  simp only [tkV]
  have hb1 := K1.blk hb0 (by simp)
  have hR1 := K1.blk HR.out (by simp)
  have K01 := K0.trans K1
  clear K0 K1 hb0 HR HT
  have hd2 : ((kd1 : Int) != (kd1 : Int)) = false := by simp
  have hb2 := blk_alloc hb1 (.cells #[.int .i64 kd1, .int .i64 at1, .string ⟨tx1.toArray⟩, .int .i64 nu1] 69)
  have hR2 := blk_alloc hR1 (.cells #[.int .i64 kd1, .int .i64 at1, .string ⟨tx1.toArray⟩, .int .i64 nu1] 69)
  obtain ⟨d0, d1, d2, d3, f0, f1, f2, f3⟩ := facts4 hb2
  obtain ⟨g0, g1, g2, e0, e1, e2⟩ := facts3 hR2
  have hx := blk_new w1 (.cells #[.int .i64 kd1, .int .i64 at1, .string ⟨tx1.toArray⟩, .int .i64 nu1] 69)
  have HB2 := Lib.hid hb2
  have HR2 := Lib.hid hR2
  clear hb2 hR2
  go_upto_region 2 with (fail)
  obtain ⟨X, hX⟩ : ∃ X, X = w1.heap.size := ⟨_, rfl⟩
  rw [← hX] at hx ⊢
  have hXR : X ≠ R := by have := blk_lt hR1; omega
  have hXB : X ≠ B := by have := blk_lt hb1; omega
  have hBX := Ne.symm hXB
  have hRX := Ne.symm hXR
  obtain ⟨x0, x1, x2, x3, -, -, -, -⟩ := facts4 hx
  clear hX hx hb1 hR1
  have K2 := K01.alloc (.cells #[.int .i64 kd1, .int .i64 at1, .string ⟨tx1.toArray⟩, .int .i64 nu1] 69)
  generalize w1.alloc (.cells #[.int .i64 kd1, .int .i64 at1, .string ⟨tx1.toArray⟩, .int .i64 nu1] 69) = w2 at d0 d1 d2 d3 f0 f1 f2 f3 g0 g1 g2 e0 e1 e2 x0 x1 x2 x3 HB2 HR2 K2 ⊢
  go_wp2
  have hBw : w.heap.size ≤ B := by have := HB.out; omega
  refine bodyPost_ret (v := .tuple #[tkV ⟨kd1, at1, tx1, nu1⟩, .bool true]) (by simp [results, Tryd.results31, go_sem, tkV, d0, d1, d2, d3]) rfl ⟨by rw [HE.out], ?_, ?_⟩
  · have h1 := blk_set_same HR2.out 1 (.int .i64 ((k : Int) + 1))
    refine blk_set_other (blk_set_other (blk_set_other (blk_set_other ?_ _ _ hBR) _ _ hBR) _ _ hBR) _ _ hBR
    rw [h1]
    simp [rdO]
  · exact (((((K2.mono (G := [R]) (by simp)).setCell R 1 _ (.inl (by simp))).setCell B 0 _ (.inr hBw)).setCell B 1 _ (.inr hBw)).setCell B 2 _ (.inr hBw)).setCell B 3 _ (.inr hBw)

def TakePost (R : Nat) (A : Option Addr) (cap k e kd : Nat) (ts : List Tk) (w : World) (r : Ending) (w' : World) : Prop :=
  ∃ (b : Bool) (k' : Nat), r = .returned (.tuple #[tkV (hereT ts k e), .bool b]) ∧ ((b = true ∧ (hereT ts k e).kind = kd ∧ k' = k + 1) ∨ (b = false ∧ (hereT ts k e).kind ≠ kd ∧ k' = k)) ∧ w'.heap[R]? = some (rdO A ts.length cap k' e) ∧ Keeps [R] w w'
theorem take_both (R : Nat) (A : Option Addr) (cap k e kd : Nat) (ts : List Tk) (w : World) (hR : w.heap[R]? = some (rdO A ts.length cap k e)) (hT : RowTk w A ts) (hk : k ≤ 1000000) :
    Calls Tryd.prog 31 #[.pointer (some ⟨R, 0, none⟩), .int .i64 (kd : Nat)] w (TakePost R A cap k e kd ts w) := by
  by_cases hd : (hereT ts k e).kind = kd
  · refine (take_yes R A cap k e kd ts w hR hT hk hd).mono ?_
    rintro r w' ⟨rfl, h1, h2⟩
    exact ⟨true, k + 1, rfl, .inl ⟨rfl, hd, rfl⟩, h1, h2⟩
  · refine (take_no R A cap k e kd ts w hR hT hd).mono ?_
    rintro r w' ⟨rfl, h1⟩
    exact ⟨false, k, rfl, .inr ⟨rfl, hd, rfl⟩, h1.blk hR (by simp), h1.mono (by simp)⟩
theorem rd_step {w : World} {R : Nat} {A : Option Addr} {n cap k e : Nat} (h : w.heap[R]? = some (rdO A n cap k e)) : (w.setCell ⟨R, 1, none⟩ (.int .i64 ((k : Int) + 1))).heap[R]? = some (rdO A n cap (k + 1) e) := by
  rw [blk_set_same h 1 (.int .i64 ((k : Int) + 1))]
  simp [rdO]

set_option maxHeartbeats 1000000 in
set_option maxRecDepth 100000 in
theorem ends_any (R : Nat) (A : Option Addr) (cap k e : Nat) (ts : List Tk) (w : World) (hR : w.heap[R]? = some (rdO A ts.length cap k e)) (hT : RowTk w A ts) :
    Calls Tryd.prog 42 #[.pointer (some ⟨R, 0, none⟩)] w fun r w' => r = .returned (.bool (decide (ts.length ≤ k) || (hereT ts k e).kind == 4)) ∧ Keeps [] w w' := by
  have HR := Lib.hid hR
  have HT := Lib.hid hT
  obtain ⟨h0, h1, h2, -, -, -⟩ := facts3 hR
  clear hR hT
  obtain ⟨L, hL⟩ : ∃ L, ts.length = L := ⟨_, rfl⟩
  rw [hL] at h0 HR
  obtain ⟨t, ht⟩ : ∃ t, hereT ts k e = t := ⟨_, rfl⟩
  have HE := Lib.hid ht
  have HL := Lib.hid hL
  clear ht hL
  by_cases hge : L ≤ k
  · have hd : decide (L ≤ k) = true := by simpa using hge
    go_enter Tryd.func42, Tryd.ntmps42
    go_wp2_with fail
    go_quiet (fail)
    go_wp2
    go_ret
    exact ⟨by rw [HL.out, hd]; simp, (Keeps.refl _ _).drewN _⟩
  · have hd : decide (L ≤ k) = false := by simpa using hge
    obtain ⟨kd1, at1, tx1, nu1⟩ := t
    have hf0 : ∀ W : World, (Instr.field 69 (.agg #[.int .i64 kd1, .int .i64 at1, .string ⟨tx1.toArray⟩, .int .i64 nu1]) 0).run Tryd.prog W = .ok (.int .i64 kd1) W := fun _ => by kernel_rfl
    go_enter Tryd.func42, Tryd.ntmps42
    go_wp2_with fail
    go_region_with (go_at_call 33; refine (here_any R A cap k e ts _ (((Keeps.refl [] w).drew).blk (by rw [HL.out]; exact HR.out) (by simp)) (HT.out.keeps ((Keeps.refl [] w).drew) (by simp))).mono ?_; rw [HE.out]; simp only [tkV]; rintro r w1 ⟨rfl, K1⟩)
    all_goals
      go_wp2
      go_ret
      have hkd : ((kd1 : Int) == 4) = (kd1 == 4) := by rw [Bool.eq_iff_iff]; simp; omega
      exact ⟨by rw [HL.out, hd, HE.out]; simp [Act.put, hkd], ((Keeps.refl [] w).drew).trans K1⟩
end Go.Proofs.YtefdcjmfbjlinaaDoor.Sc
