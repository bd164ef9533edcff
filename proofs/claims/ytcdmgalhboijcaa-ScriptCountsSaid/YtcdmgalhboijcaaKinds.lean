/- script's rest and cut. -/
import Derived.Test.YtcdmgalhboijcaaCheckall
import Derived.Test.YtcdmgalhboijcaaWWords
import Derived.Test.YtcdmgalhboijcaaWMore
import Derived.Deep.LoopGhost
namespace Go.Proofs.Ytcdmgalhboijcaa.Sc
open Go.RowKit Go.Shelf Go.Maps Go.Proofs.YtcdmgalhboijcaaW.PrintWords Go.Proofs.YtcdmgalhboijcaaW.PrintMore

theorem neg_lt_tmod (x n : Int) (h : 0 < n) : -n < x.tmod n := by
  have h1 := Int.tmod_lt_of_pos (-x) h
  rw [Int.neg_tmod] at h1
  omega
theorem rest_eq (x n : Int) (h : 0 < n) : x % n = if x.tmod n < 0 then x.tmod n + n else x.tmod n := by
  have h1 := Int.tmod_lt_of_pos x h
  have h2 : -n < x.tmod n := neg_lt_tmod x n h
  have e := Int.tmod_add_mul_tdiv x n
  have hx : x % n = (x.tmod n) % n := by
    conv => lhs; rw [← e]
    rw [Int.add_mul_emod_self_left]
  rw [hx]
  split
  · rw [← Int.add_emod_right, Int.emod_eq_of_lt (by omega) (by omega)]
  · exact Int.emod_eq_of_lt (by omega) (by omega)
theorem rest_any (x n : Int) (w : World) (h : 0 < n) (hn : n ≤ 1000000000000) : Calls Try.prog 26 #[.int .i64 x, .int .i64 n] w fun e w' => e = .returned (.int .i64 (x % n)) ∧ w = w' := by
  have h0 : ¬ n = 0 := by omega
  have h0' : (n == 0) = false := by simp; omega
  have h1 := Int.tmod_lt_of_pos x h
  have h2 : -n < x.tmod n := neg_lt_tmod x n h
  have hv := rest_eq x n h
  have HV := Lib.hid hv
  clear hv
  by_cases hneg : x.tmod n < 0
  · go_enter Try.func26, Try.ntmps26
    go_wp2
    go_ret
    refine ⟨?_, rfl⟩
    rw [HV.out, if_pos hneg]
    simp
    try omega
  · go_enter Try.func26, Try.ntmps26
    go_wp2
    go_ret
    refine ⟨?_, rfl⟩
    rw [HV.out, if_neg (by omega)]
    simp

def cutL : List Int → Int → Int → List Int
  | [], _, _ => []
  | c :: cs, work, most => if work = 0 then [] else (1 + c % (min most work)) :: cutL cs (work - (1 + c % (min most work))) most
theorem cutL_zero (cs : List Int) (most : Int) : cutL cs 0 most = [] := by cases cs <;> simp [cutL]
theorem cutL_length : ∀ (cs : List Int) (work most : Int), (cutL cs work most).length ≤ cs.length
  | [], _, _ => by simp [cutL]
  | c :: cs, work, most => by
    unfold cutL
    split
    · simp
    · simp only [List.length_cons]
      have := cutL_length cs (work - (1 + c % (min most work))) most
      omega

theorem info2 : (Try.prog.info? 2).map (fun i => (i.zero, i.size, i.bytes)) = some (some (.int .i64 0), 1, 8) := by kernel_rfl

theorem min2_run (a b : Int) (ats : Array TypeId) (ty : TypeId) (w : World) : (Builtin.min_ ats ty #[.int .i64 a, .int .i64 b]).run Try.prog w = .ok (.int .i64 (min a b)) w := by
  have h2 : ∀ (k k' : IntKind) (x y : Int), Builtin.min2 (.int k x) (.int k' y) = (pure (.int k (min x y)) : Sem Value) := by
    intro k k' x y
    simp only [Builtin.min2]
    congr 2
    omega
  have h4 : Builtin.min_ ats ty #[.int .i64 a, .int .i64 b] = (pure (.int .i64 (min a b)) : Sem Value) := by
    simp [Builtin.min_, h2]
  rw [h4]
  rfl

theorem at_int {w : World} {A : Option Addr} {n : Nat} {xs : List Int} {q : IntKind} (h : Kd.C (Kd.int q) w A n xs) (i : Nat) (x : Int) (hx : xs[i]? = some x) : ∃ ad, A = some ad ∧ w.cell? (ad.add i) = some (.int q x) := by
  obtain ⟨h1, h2, h3⟩ := h
  have hi : i < xs.length := by
    rcases Nat.lt_or_ge i xs.length with h' | h'
    · exact h'
    · rw [List.getElem?_eq_none h'] at hx; cases hx
  obtain ⟨ad, he, hc⟩ := h3 (by omega)
  obtain ⟨c, hl, hK, hcell⟩ := hc i x hx
  have hK' : c = [.int q x] := hK
  subst hK'
  have := hcell 0 (.int q x) rfl
  refine ⟨ad, he, ?_⟩
  have e : i * (Kd.int q).sz + 0 = i := by show i * 1 + 0 = i; omega
  rwa [e] at this

set_option maxHeartbeats 2000000 in
theorem cut_any (A : Option Addr) (cap : Nat) (cuts : List Int) (work most : Int) (w : World) (hr : Kd.C (Kd.int .i64) w A cuts.length cuts) (hcap : cuts.length ≤ cap) (hm : cuts.length ≤ 17592186044416) (hw0 : 0 ≤ work) (hw1 : work ≤ 2147483647) (hq0 : 1 ≤ most) (hq1 : most ≤ 2147483647) :
    Calls Try.prog 27 #[.slice A cuts.length cap, .int .i64 work, .int .i64 most] w fun e w' => ∃ v, e = .returned v ∧ Kd.R (Kd.int .i64) 2 w' w.heap.size (fun _ => True) v (cutL cuts work most) ∧ Below w.heap.size w w' := by
  have HR := Lib.hid hr
  clear hr
  go_enter Try.func27, Try.ntmps27
  go_wp2_with fail
  go_step3
  go_wp2_with fail
  go_step3
  go_wp2_with fail
  go_loopg [7, 13, 1] (cuts.length) (fun gh v iv kv wr => ∃ (i : Nat) (wk : Int) (acc : List Int), cuts.length - i ≤ gh ∧ iv = .int .i64 i ∧ kv = .int .i64 wk ∧ i ≤ cuts.length ∧ acc.length = i ∧ 0 ≤ wk ∧ wk ≤ 2147483647 ∧ cutL cuts work most = acc ++ cutL (cuts.drop i) wk most ∧ Kd.R (Kd.int .i64) 2 wr w.heap.size (fun _ => True) v acc ∧ Below w.heap.size w wr)
  case atStart => exact ⟨0, work, [], by omega, rfl, rfl, by omega, rfl, hw0, hw1, by simp, Kd.R_nil _ _ _ _ _, Below.refl _ _⟩
  case round =>
    obtain ⟨i, wk, acc, hgh, rfl, rfl, hil, hal, hwk0, hwk1, hcut, hR, hB⟩ := hrel
    have HCUT := Lib.hid hcut
    have HRR := Lib.hid hR
    have HB := Lib.hid hB
    clear hcut hR hB
    by_cases hlt : i < cuts.length
    · obtain ⟨c, hc⟩ : ∃ c, cuts[i]? = some c := ⟨cuts[i], by simp [hlt]⟩
      obtain ⟨ad, ha, hcell⟩ := at_int (Kd.C_below HR.out HB.out) i c hc
      subst ha
      have HC := Lib.hid hc
      clear hc
      have hlt' : (i : Int) < (cuts.length : Int) := by omega
      have e1 : cuts.drop i = c :: cuts.drop (i + 1) := by
        rw [List.drop_eq_getElem_cons hlt]
        have := HC.out
        rw [List.getElem?_eq_getElem hlt] at this
        injection this with this
        rw [this]
      by_cases hz : wk = 0
      · subst hz
        have hd : cutL cuts work most = acc := by rw [HCUT.out, cutL_zero]; simp
        have HD := Lib.hid hd
        clear hd e1
        go_wp2
        try simp only [Exit.noGoto]
        go_ret
        rw [HD.out]
        exact ⟨_, rfl, HRR.out, HB.out⟩
      · have hmin := fun W => min2_run most wk #[2, 2] 2 W
        have hmn0 : 0 < min most wk := by omega
        have hmn1 : min most wk ≤ 1000000000000 := by omega
        have hr0 := Int.emod_nonneg c (show min most wk ≠ 0 by omega)
        have hr1 := Int.emod_lt_of_pos c hmn0
        have hcut2 := HCUT.out
        rw [e1, cutL, if_neg hz] at hcut2
        obtain ⟨r, hr⟩ : ∃ r, r = c % min most wk := ⟨_, rfl⟩
        rw [← hr] at hr0 hr1 hcut2
        have hnz : (wk == 0) = false := by simp [hz]
        have hrk : r < wk := by omega
        have HCUT2 := Lib.hid hcut2
        have HRE := Lib.hid hr
        have H01 := Lib.hid (show 0 ≤ r ∧ r < wk from ⟨hr0, hrk⟩)
        clear e1 hcut2 hr1 HCUT hr
        go_wp2_with (first
          | (go_at_call 26; refine (rest_any c (min most wk) _ hmn0 hmn1).mono ?_; rintro e w' ⟨rfl, rfl⟩; rw [← HRE.out])
          | (at_builtin; refine Kd.R_append (Kd.int .i64) (w0 := w) w.heap.size rfl (.tmp 25) (.tmp 27) 37 2 (.int .i64 0) 8 rfl Try.underlying37 info2 rfl (by decide) (by omega) _ acc (1 + r) [.int .i64 (1 + r)] (fun _ => True) (fun _ => False) rfl rfl rfl (fun _ hk => hk.elim) (fun _ _ => trivial) HRR.out HB.out HB.out.size (by omega) ?_
             intro v1 w1 ho hb hg hat))
        go_roundg (cuts.length - (i + 1))
        case rel => exact ⟨i + 1, wk - (1 + r), acc ++ [1 + r], Nat.le_refl _, by go_num, rfl, by omega, by simp [hal], by omega, by omega, by rw [HCUT2.out]; simp, ho, hb⟩
        case measure => omega
    · obtain rfl : i = cuts.length := by omega
      have hd : cutL cuts work most = acc := by rw [HCUT.out, List.drop_length]; simp [cutL]
      have HD := Lib.hid hd
      clear hd
      go_wp2
      try simp only [Exit.noGoto]
      go_ret
      rw [HD.out]
      exact ⟨_, rfl, HRR.out, HB.out⟩
end Go.Proofs.Ytcdmgalhboijcaa.Sc
/- Jobs, raw jobs and tasks, as they lie in memory; script's may. -/
namespace Go.Proofs.Ytcdmgalhboijcaa.Sc
open Go.RowKit Go.Shelf Go.Maps Go.Proofs.YtcdmgalhboijcaaW.PrintWords Go.Proofs.YtcdmgalhboijcaaW.PrintMore

structure Rw where
  task : Int
  gap : Int
  late : Int
  work : Int
  cuts : List Int
structure Jb where
  task : Int
  arrive : Int
  release : Int
  work : Int
  cuts : List Int
def kRw : Kd Rw := Kd.iso (Kd.pair (Kd.int .i64) (Kd.pair (Kd.int .i64) (Kd.pair (Kd.int .i64) (Kd.pair (Kd.int .i64) (Kd.slice 3 (Kd.int .i64)))))) (fun x : Rw => (x.task, x.gap, x.late, x.work, x.cuts))
def kJb : Kd Jb := Kd.iso (Kd.pair (Kd.int .i64) (Kd.pair (Kd.int .i64) (Kd.pair (Kd.int .i64) (Kd.pair (Kd.int .i64) (Kd.slice 2 (Kd.int .i64)))))) (fun x : Jb => (x.task, x.arrive, x.release, x.work, x.cuts))
def kTsk : Kd Tsk := Kd.iso (Kd.pair Kd.string (Kd.pair (Kd.int .i64) (Kd.pair (Kd.int .i64) (Kd.pair (Kd.int .i64) (Kd.pair (Kd.int .i64) (Kd.pair (Kd.int .i64) (Kd.int .i64))))))) (fun x : Tsk => (x.nm, x.c, x.t, x.d, x.j, x.q, x.p))

theorem kRw_open {w : World} {x : Rw} {cs : List Value} (h : kRw.K w x cs) : ∃ A4 c4, cs = [.int .i64 x.task, .int .i64 x.gap, .int .i64 x.late, .int .i64 x.work, .slice A4 x.cuts.length c4] ∧ x.cuts.length ≤ c4 ∧ (Kd.int .i64).C w A4 x.cuts.length x.cuts := by
  obtain ⟨c0, r0, rfl, h0, c1, r1, rfl, h1, c2, r2, rfl, h2, c3, r3, rfl, h3, A, c, h4, l4, g4⟩ := h
  have e0 : c0 = [.int .i64 x.task] := h0
  have e1 : c1 = [.int .i64 x.gap] := h1
  have e2 : c2 = [.int .i64 x.late] := h2
  have e3 : c3 = [.int .i64 x.work] := h3
  subst e0 e1 e2 e3 h4
  exact ⟨A, c, rfl, l4, g4⟩
theorem kJb_open {w : World} {x : Jb} {cs : List Value} (h : kJb.K w x cs) : ∃ A4 c4, cs = [.int .i64 x.task, .int .i64 x.arrive, .int .i64 x.release, .int .i64 x.work, .slice A4 x.cuts.length c4] ∧ x.cuts.length ≤ c4 ∧ (Kd.int .i64).C w A4 x.cuts.length x.cuts := by
  obtain ⟨c0, r0, rfl, h0, c1, r1, rfl, h1, c2, r2, rfl, h2, c3, r3, rfl, h3, A, c, h4, l4, g4⟩ := h
  have e0 : c0 = [.int .i64 x.task] := h0
  have e1 : c1 = [.int .i64 x.arrive] := h1
  have e2 : c2 = [.int .i64 x.release] := h2
  have e3 : c3 = [.int .i64 x.work] := h3
  subst e0 e1 e2 e3 h4
  exact ⟨A, c, rfl, l4, g4⟩
theorem kJb_mkM (w : World) (base : Nat) (ok : Nat → Prop) (x : Jb) {v4 : Value} (g4 : (Kd.int .i64).R 2 w base ok v4 x.cuts) : kJb.M w base ok x [.int .i64 x.task, .int .i64 x.arrive, .int .i64 x.release, .int .i64 x.work, v4] :=
  ⟨[.int .i64 x.task], [.int .i64 x.arrive, .int .i64 x.release, .int .i64 x.work, v4], rfl, rfl, ⟨[.int .i64 x.arrive], [.int .i64 x.release, .int .i64 x.work, v4], rfl, rfl, ⟨[.int .i64 x.release], [.int .i64 x.work, v4], rfl, rfl, ⟨[.int .i64 x.work], [v4], rfl, rfl, ⟨v4, rfl, g4⟩⟩⟩⟩⟩
theorem kTsk_open {w : World} {x : Tsk} {cs : List Value} (h : kTsk.K w x cs) : cs = cellsTsk x := by
  obtain ⟨c0, r0, rfl, h0, c1, r1, rfl, h1, c2, r2, rfl, h2, c3, r3, rfl, h3, c4, r4, rfl, h4, c5, r5, rfl, h5, h6⟩ := h
  have e0 : c0 = [.string x.nm] := h0
  have e1 : c1 = [.int .i64 x.c] := h1
  have e2 : c2 = [.int .i64 x.t] := h2
  have e3 : c3 = [.int .i64 x.d] := h3
  have e4 : c4 = [.int .i64 x.j] := h4
  have e5 : c5 = [.int .i64 x.q] := h5
  have e6 : r5 = [.int .i64 x.p] := h6
  subst e0 e1 e2 e3 e4 e5 e6
  rfl
theorem c_addr {α : Type} {d : Kd α} {w : World} {A : Option Addr} {xs : List α} (h : d.C w A xs.length xs) (hs : 0 < d.sz) : xs = [] ∨ ∃ b o, A = some ⟨b, o, none⟩ := by
  cases xs with
  | nil => exact .inl rfl
  | cons x xs =>
    right
    obtain ⟨h1, h2, h3⟩ := h
    obtain ⟨ad, he, hc⟩ := h3 (by simp)
    obtain ⟨c, hl, hK, hcell⟩ := hc 0 x rfl
    obtain ⟨u, hu⟩ : ∃ u, c[0]? = some u := ⟨c[0]'(by omega), by simp⟩
    have := hcell 0 u hu
    obtain ⟨b, off, spot⟩ := ad
    have hspot : spot = none := by simpa [Addr.add] using World.cell?_spot this
    subst hspot
    exact ⟨b, off, he⟩
theorem c_cells {α : Type} {d : Kd α} {w : World} {b o : Nat} {xs : List α} (h : d.C w (some ⟨b, o, none⟩) xs.length xs) (i : Nat) (x : α) (hx : xs[i]? = some x) : ∃ cs, d.K w x cs ∧ ∀ r u, cs[r]? = some u → w.cell? ⟨b, o + i * d.sz + r, none⟩ = some u := by
  obtain ⟨h1, h2, h3⟩ := h
  have hi : i < xs.length := by
    rcases Nat.lt_or_ge i xs.length with h' | h'
    · exact h'
    · rw [List.getElem?_eq_none h'] at hx; cases hx
  obtain ⟨ad, he, hc⟩ := h3 (by omega)
  injection he with he
  subst he
  obtain ⟨c, hl, hK, hcell⟩ := hc i x hx
  refine ⟨c, hK, fun r u hu => ?_⟩
  have := hcell r u hu
  rw [addr_add] at this
  rwa [Nat.add_assoc]
theorem row_tsk {w : World} {A : Option Addr} {xs : List Tsk} (h : kTsk.C w A xs.length xs) : RowTsk w A xs := by
  intro i x hx
  rcases c_addr h (by decide) with rfl | ⟨b, o, rfl⟩
  · simp at hx
  · obtain ⟨cs, hK, hc⟩ := c_cells h i x hx
    rw [kTsk_open hK] at hc
    exact ⟨b, o, rfl, hc⟩

/-- A set may be. -/
def mayB (l : List Tsk) : Bool := (checkAllL l).2 == 0
theorem may_any (A : Option Addr) (cap : Nat) (xs : List Tsk) (w : World) (hsz : ∀ x ∈ xs, x.nm.size ≤ maxLen) (hwf : ∀ x ∈ xs, (Lit.int .i64 x.p).wf = true) (hr : RowTsk w A xs) :
    Calls Try.prog 25 #[.slice A xs.length cap] w fun e w' => e = .returned (.bool (mayB xs)) ∧ Keeps [] w w' := by
  go_enter Try.func25, Try.ntmps25
  go_wp2_with fail
  refine (checkAll_any A cap xs _ hsz hwf hr).mono ?_
  rintro e w' ⟨rfl, K⟩
  go_wp2
  go_ret
  exact ⟨by unfold mayB; simp, K⟩

/-- Each task of a set that may be is in its bounds. -/
structure Fine (x : Tsk) : Prop where
  c0 : 1 ≤ x.c
  c1 : x.c ≤ 2147483647
  t0 : 1 ≤ x.t
  t1 : x.t ≤ 2147483647
  q0 : 1 ≤ x.q
  q1 : x.q ≤ 2147483647
  j0 : 0 ≤ x.j
  j1 : x.j ≤ 2147483647
theorem fine_of_check {x : Tsk} (h : checkE x = 0) : Fine x := by
  have hr : rangesB x = true := by
    cases h' : rangesB x
    · simp [checkE, h'] at h
    · rfl
  unfold rangesB inB at hr
  simp only [Bool.and_eq_true, decide_eq_true_eq] at hr
  obtain ⟨⟨⟨⟨⟨⟨⟨⟨⟨_, _⟩, hm⟩, hc⟩, ht⟩, hd⟩, hq⟩, hj⟩, _⟩, _⟩ := hr
  constructor <;> omega
theorem allFrom_fine : ∀ (xs pre : List Tsk), (allFrom pre xs).2 = 0 → ∀ x ∈ xs, checkE x = 0
  | [], _, _ => by simp
  | x :: xs, pre, h => by
    unfold allFrom at h
    split at h
    · rename_i hne
      exact absurd h hne
    · rename_i he
      split at h
      · simp at h
      · intro y hy
        simp only [List.mem_cons] at hy
        rcases hy with rfl | hy
        · simpa using he
        · exact allFrom_fine xs _ h y hy
theorem may_fine {l : List Tsk} (h : mayB l = true) : 1 ≤ l.length ∧ l.length ≤ 1024 ∧ ∀ x ∈ l, Fine x := by
  unfold mayB checkAllL at h
  split at h
  · simp at h
  · rename_i hn
    simp only [not_or, Nat.not_lt] at hn
    refine ⟨by omega, hn.2, fun x hx => fine_of_check (allFrom_fine l [] (by simpa using h) x hx)⟩
end Go.Proofs.Ytcdmgalhboijcaa.Sc
