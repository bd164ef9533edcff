/- Jobs, raw jobs and tasks, as they lie in memory; script's may. -/
import Derived.Test.YtcdmgalhboijcaaCut
namespace Go.Proofs.Ytcdmgalhboijcaa.Sc
open Go.RowKit Go.Shelf Go.Maps Go.Proofs.YtcdmgalhboijcaaW.PrintWords Go.Proofs.YtcdmgalhboijcaaW.PrintMore

structure Rw where
  task : Int
  gap : Int
  late : Int
  work : Int
  cuts : List Int
structure Jb where
  task : Int
  arrive : Int
  release : Int
  work : Int
  cuts : List Int
def kRw : Kd Rw := Kd.iso (Kd.pair (Kd.int .i64) (Kd.pair (Kd.int .i64) (Kd.pair (Kd.int .i64) (Kd.pair (Kd.int .i64) (Kd.slice 3 (Kd.int .i64)))))) (fun x : Rw => (x.task, x.gap, x.late, x.work, x.cuts))
def kJb : Kd Jb := Kd.iso (Kd.pair (Kd.int .i64) (Kd.pair (Kd.int .i64) (Kd.pair (Kd.int .i64) (Kd.pair (Kd.int .i64) (Kd.slice 2 (Kd.int .i64)))))) (fun x : Jb => (x.task, x.arrive, x.release, x.work, x.cuts))
def kTsk : Kd Tsk := Kd.iso (Kd.pair Kd.string (Kd.pair (Kd.int .i64) (Kd.pair (Kd.int .i64) (Kd.pair (Kd.int .i64) (Kd.pair (Kd.int .i64) (Kd.pair (Kd.int .i64) (Kd.int .i64))))))) (fun x : Tsk => (x.nm, x.c, x.t, x.d, x.j, x.q, x.p))

theorem kRw_open {w : World} {x : Rw} {cs : List Value} (h : kRw.K w x cs) : ∃ A4 c4, cs = [.int .i64 x.task, .int .i64 x.gap, .int .i64 x.late, .int .i64 x.work, .slice A4 x.cuts.length c4] ∧ x.cuts.length ≤ c4 ∧ (Kd.int .i64).C w A4 x.cuts.length x.cuts := by
  obtain ⟨c0, r0, rfl, h0, c1, r1, rfl, h1, c2, r2, rfl, h2, c3, r3, rfl, h3, A, c, h4, l4, g4⟩ := h
  have e0 : c0 = [.int .i64 x.task] := h0
  have e1 : c1 = [.int .i64 x.gap] := h1
  have e2 : c2 = [.int .i64 x.late] := h2
  have e3 : c3 = [.int .i64 x.work] := h3
  subst e0 e1 e2 e3 h4
  exact ⟨A, c, rfl, l4, g4⟩
theorem kJb_open {w : World} {x : Jb} {cs : List Value} (h : kJb.K w x cs) : ∃ A4 c4, cs = [.int .i64 x.task, .int .i64 x.arrive, .int .i64 x.release, .int .i64 x.work, .slice A4 x.cuts.length c4] ∧ x.cuts.length ≤ c4 ∧ (Kd.int .i64).C w A4 x.cuts.length x.cuts := by
  obtain ⟨c0, r0, rfl, h0, c1, r1, rfl, h1, c2, r2, rfl, h2, c3, r3, rfl, h3, A, c, h4, l4, g4⟩ := h
  have e0 : c0 = [.int .i64 x.task] := h0
  have e1 : c1 = [.int .i64 x.arrive] := h1
  have e2 : c2 = [.int .i64 x.release] := h2
  have e3 : c3 = [.int .i64 x.work] := h3
  subst e0 e1 e2 e3 h4
  exact ⟨A, c, rfl, l4, g4⟩
theorem kJb_mkM (w : World) (base : Nat) (ok : Nat → Prop) (x : Jb) {v4 : Value} (g4 : (Kd.int .i64).R 2 w base ok v4 x.cuts) : kJb.M w base ok x [.int .i64 x.task, .int .i64 x.arrive, .int .i64 x.release, .int .i64 x.work, v4] :=
  ⟨[.int .i64 x.task], [.int .i64 x.arrive, .int .i64 x.release, .int .i64 x.work, v4], rfl, rfl, ⟨[.int .i64 x.arrive], [.int .i64 x.release, .int .i64 x.work, v4], rfl, rfl, ⟨[.int .i64 x.release], [.int .i64 x.work, v4], rfl, rfl, ⟨[.int .i64 x.work], [v4], rfl, rfl, ⟨v4, rfl, g4⟩⟩⟩⟩⟩
theorem kTsk_open {w : World} {x : Tsk} {cs : List Value} (h : kTsk.K w x cs) : cs = cellsTsk x := by
  obtain ⟨c0, r0, rfl, h0, c1, r1, rfl, h1, c2, r2, rfl, h2, c3, r3, rfl, h3, c4, r4, rfl, h4, c5, r5, rfl, h5, h6⟩ := h
  have e0 : c0 = [.string x.nm] := h0
  have e1 : c1 = [.int .i64 x.c] := h1
  have e2 : c2 = [.int .i64 x.t] := h2
  have e3 : c3 = [.int .i64 x.d] := h3
  have e4 : c4 = [.int .i64 x.j] := h4
  have e5 : c5 = [.int .i64 x.q] := h5
  have e6 : r5 = [.int .i64 x.p] := h6
  subst e0 e1 e2 e3 e4 e5 e6
  rfl
theorem c_addr {α : Type} {d : Kd α} {w : World} {A : Option Addr} {xs : List α} (h : d.C w A xs.length xs) (hs : 0 < d.sz) : xs = [] ∨ ∃ b o, A = some ⟨b, o, none⟩ := by
  cases xs with
  | nil => exact .inl rfl
  | cons x xs =>
    right
    obtain ⟨h1, h2, h3⟩ := h
    obtain ⟨ad, he, hc⟩ := h3 (by simp)
    obtain ⟨c, hl, hK, hcell⟩ := hc 0 x rfl
    obtain ⟨u, hu⟩ : ∃ u, c[0]? = some u := ⟨c[0]'(by omega), by simp⟩
    have := hcell 0 u hu
    obtain ⟨b, off, spot⟩ := ad
    have hspot : spot = none := by simpa [Addr.add] using World.cell?_spot this
    subst hspot
    exact ⟨b, off, he⟩
theorem c_cells {α : Type} {d : Kd α} {w : World} {b o : Nat} {xs : List α} (h : d.C w (some ⟨b, o, none⟩) xs.length xs) (i : Nat) (x : α) (hx : xs[i]? = some x) : ∃ cs, d.K w x cs ∧ ∀ r u, cs[r]? = some u → w.cell? ⟨b, o + i * d.sz + r, none⟩ = some u := by
  obtain ⟨h1, h2, h3⟩ := h
  have hi : i < xs.length := by
    rcases Nat.lt_or_ge i xs.length with h' | h'
    · exact h'
    · rw [List.getElem?_eq_none h'] at hx; cases hx
  obtain ⟨ad, he, hc⟩ := h3 (by omega)
  injection he with he
  subst he
  obtain ⟨c, hl, hK, hcell⟩ := hc i x hx
  refine ⟨c, hK, fun r u hu => ?_⟩
  have := hcell r u hu
  rw [addr_add] at this
  rwa [Nat.add_assoc]
theorem row_tsk {w : World} {A : Option Addr} {xs : List Tsk} (h : kTsk.C w A xs.length xs) : RowTsk w A xs := by
  intro i x hx
  rcases c_addr h (by decide) with rfl | ⟨b, o, rfl⟩
  · simp at hx
  · obtain ⟨cs, hK, hc⟩ := c_cells h i x hx
    rw [kTsk_open hK] at hc
    exact ⟨b, o, rfl, hc⟩

/-- A set may be. -/
def mayB (l : List Tsk) : Bool := (checkAllL l).2 == 0
theorem may_any (A : Option Addr) (cap : Nat) (xs : List Tsk) (w : World) (hsz : ∀ x ∈ xs, x.nm.size ≤ maxLen) (hwf : ∀ x ∈ xs, (Lit.int .i64 x.p).wf = true) (hr : RowTsk w A xs) :
    Calls Try.prog 25 #[.slice A xs.length cap] w fun e w' => e = .returned (.bool (mayB xs)) ∧ Keeps [] w w' := by
  go_enter Try.func25, Try.ntmps25
  go_wp2_with fail
  refine (checkAll_any A cap xs _ hsz hwf hr).mono ?_
  rintro e w' ⟨rfl, K⟩
  go_wp2
  go_ret
  exact ⟨by unfold mayB; simp, K⟩

/-- Each task of a set that may be is in its bounds. -/
structure Fine (x : Tsk) : Prop where
  c0 : 1 ≤ x.c
  c1 : x.c ≤ 2147483647
  t0 : 1 ≤ x.t
  t1 : x.t ≤ 2147483647
  q0 : 1 ≤ x.q
  q1 : x.q ≤ 2147483647
  j0 : 0 ≤ x.j
  j1 : x.j ≤ 2147483647
theorem fine_of_check {x : Tsk} (h : checkE x = 0) : Fine x := by
  have hr : rangesB x = true := by
    cases h' : rangesB x
    · simp [checkE, h'] at h
    · rfl
  unfold rangesB inB at hr
  simp only [Bool.and_eq_true, decide_eq_true_eq] at hr
  obtain ⟨⟨⟨⟨⟨⟨⟨⟨⟨_, _⟩, hm⟩, hc⟩, ht⟩, hd⟩, hq⟩, hj⟩, _⟩, _⟩ := hr
  constructor <;> omega
theorem allFrom_fine : ∀ (xs pre : List Tsk), (allFrom pre xs).2 = 0 → ∀ x ∈ xs, checkE x = 0
  | [], _, _ => by simp
  | x :: xs, pre, h => by
    unfold allFrom at h
    split at h
    · rename_i hne
      exact absurd h hne
    · rename_i he
      split at h
      · simp at h
      · intro y hy
        simp only [List.mem_cons] at hy
        rcases hy with rfl | hy
        · simpa using he
        · exact allFrom_fine xs _ h y hy
theorem may_fine {l : List Tsk} (h : mayB l = true) : 1 ≤ l.length ∧ l.length ≤ 1024 ∧ ∀ x ∈ l, Fine x := by
  unfold mayB checkAllL at h
  split at h
  · simp at h
  · rename_i hn
    simp only [not_or, Nat.not_lt] at hn
    refine ⟨by omega, hn.2, fun x hx => fine_of_check (allFrom_fine l [] (by simpa using h) x hx)⟩
end Go.Proofs.Ytcdmgalhboijcaa.Sc
