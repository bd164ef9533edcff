/- What the laws call, as contracts of lists. -/
import Derived.Test.YtcdmgalhboijcaaPvalid
import Derived.Test.YtcdmgalhboijcaaSame
import Derived.Test.YtcdmgalhboijcaaWFoot
import Derived.Test.YtcdmgalhboijcaaWN
set_option linter.unusedVariables false
set_option linter.unusedSimpArgs false
namespace Go.Proofs.Ytcdmgalhboijcaa.Pu
open Go.RowKit Go.Proofs.Ytcdmgalhboijcaa.D Go.Proofs.YtcdmgalhboijcaaW.PrintWords Go.Proofs.YtcdmgalhboijcaaW.PrintLast Go.Proofs.Ytcdmgalhboijcaa.Sc

theorem heap36 : Kd.Heap k36 := Kd.heap_iso _ (Kd.heap_pair (Kd.heap_int _) (Kd.heap_pair (Kd.heap_int _) (Kd.heap_pair (Kd.heap_int _) (Kd.heap_pair (Kd.heap_int _) (Kd.heap_slice _ (Kd.heap_int _))))))
theorem heapRw : Kd.Heap kRw := Kd.heap_iso _ (Kd.heap_pair (Kd.heap_int _) (Kd.heap_pair (Kd.heap_int _) (Kd.heap_pair (Kd.heap_int _) (Kd.heap_pair (Kd.heap_int _) (Kd.heap_slice _ (Kd.heap_int _))))))
theorem heapJb : Kd.Heap kJb := Kd.heap_iso _ (Kd.heap_pair (Kd.heap_int _) (Kd.heap_pair (Kd.heap_int _) (Kd.heap_pair (Kd.heap_int _) (Kd.heap_pair (Kd.heap_int _) (Kd.heap_slice _ (Kd.heap_int _))))))

theorem awake_any (w : World) : Calls Try.prog 10 #[] w fun e w' => e = .returned (.bool true) ∧ Below w.heap.size w w' := cadencylaw08_awake.calls true w rfl
def fewR (l : List S36) : List Rw := (fewL l).map toR
theorem few_any (A : Option Addr) (c : Nat) (l : List S36) (w : World) (hC : Kd.C k36 w A l.length l) (hc : l.length ≤ c) :
    Calls Try.prog 11 #[.slice A l.length c, .int .i64 12] w fun e w' => ∃ A' c', e = .returned (.slice A' (fewR l).length c') ∧ (fewR l).length ≤ c' ∧ kRw.C w' A' (fewR l).length (fewR l) ∧ Below w.heap.size w w' := by
  obtain ⟨K, hK⟩ := few_some l
  have h := cadencylaw08_few.calls K (fun k => k < w.heap.size) A c l 12 (fewL l) w (Kd.V_mk hc (Kd.C_F heap36 hC)) (hK K (Nat.le_refl _))
  refine h.mono ?_
  rintro e w' ⟨v, rfl, hN, hB⟩
  obtain ⟨A', c', rfl, hc', hC'⟩ := Kd.N_reads hN
  refine ⟨A', c', by unfold fewR; rw [List.length_map], by unfold fewR; rw [List.length_map]; exact hc', ?_, hB⟩
  unfold fewR
  rw [List.length_map]
  exact c_toR hC'
theorem fewR_length (l : List S36) : (fewR l).length ≤ 12 := by
  unfold fewR fewL
  simp
  omega
theorem fewR_cuts (l : List S36) : ∀ r ∈ fewR l, r.cuts.length ≤ 6 := by
  intro r hr
  obtain ⟨x, hx, rfl⟩ := List.mem_map.1 hr
  obtain ⟨y, hy, rfl⟩ := List.mem_map.1 hx
  show (y.f4.take 6).length ≤ 6
  simp
  omega
def setT (l : List S52) (turn : Int) : List Tsk := (setOf l turn).map toT
theorem set_any (A : Option Addr) (c : Nat) (l : List S52) (turn : Int) (w : World) (hC : Kd.C k52 w A l.length l) (hc : l.length ≤ c) :
    Calls Try.prog 12 #[.slice A l.length c, .int .i64 5, .int .i64 turn] w fun e w' => ∃ A' c', e = .returned (.slice A' (setT l turn).length c') ∧ (setT l turn).length ≤ c' ∧ kTsk.C w' A' (setT l turn).length (setT l turn) ∧ Below w.heap.size w w' := by
  obtain ⟨K, hK⟩ := set_some l turn
  have h := cadencyref04_Set.calls K A c l 5 turn (setOf l turn) w hC hc (hK K (Nat.le_refl _))
  refine h.mono ?_
  rintro e w' ⟨v, rfl, hR, hB⟩
  obtain ⟨A', c', rfl, hc', hC'⟩ := Kd.R_reads hR
  refine ⟨A', c', by unfold setT; rw [List.length_map], by unfold setT; rw [List.length_map]; exact hc', ?_, hB⟩
  unfold setT
  rw [List.length_map]
  exact c_toT hC'
theorem setT_length (l : List S52) (turn : Int) : 1 ≤ (setT l turn).length ∧ (setT l turn).length ≤ 5 := by
  unfold setT
  rw [List.length_map]
  exact setOf_length l turn
theorem setT_may (l : List S52) (turn : Int) : mayB (setT l turn) = true := may_set l turn
theorem setT_ok (l : List S52) (turn : Int) : (∀ x ∈ setT l turn, x.nm.size ≤ maxLen) ∧ ∀ x ∈ setT l turn, (Lit.int .i64 x.p).wf = true := okL_of (okL_set l turn)
theorem dec_any (A0 : Option Addr) (c0 : Nat) (l : List S52) (turn : Int) (A1 : Option Addr) (c1 : Nat) (raw : List Rw) (w : World)
    (h0 : kTsk.C w A0 (setT l turn).length (setT l turn)) (hc0 : (setT l turn).length ≤ c0) (h1 : kRw.C w A1 raw.length raw) (hc1 : raw.length ≤ c1) (hcuts : ∀ r ∈ raw, r.cuts.length ≤ 6) :
    Calls Try.prog 14 #[.slice A0 (setT l turn).length c0, .slice A1 raw.length c1] w fun e w' => ∃ A' c', e = .returned (.slice A' (decodeL (setT l turn) raw).length c') ∧ (decodeL (setT l turn) raw).length ≤ c' ∧ kJb.C w' A' (decodeL (setT l turn) raw).length (decodeL (setT l turn) raw) ∧ Below w.heap.size w w' := by
  have h := setT_ok l turn
  refine (decode_any A0 c0 (setT l turn) A1 c1 raw w h.1 h.2 h0 hc0 h1 hc1 (fun r hr => by have := hcuts r hr; omega)).mono ?_
  rintro e w' ⟨v, rfl, hS, hB⟩
  obtain ⟨A', c', rfl, hc', hC'⟩ := Kd.R_reads (Kd.S_R hS)
  exact ⟨A', c', rfl, hc', hC', hB⟩
theorem dec_anyg {s : List Tsk} {l : List S52} {turn : Int} (hs : s = setT l turn) (A0 : Option Addr) (c0 : Nat) (A1 : Option Addr) (c1 : Nat) (raw : List Rw) (w : World)
    (h0 : kTsk.C w A0 s.length s) (hc0 : s.length ≤ c0) (h1 : kRw.C w A1 raw.length raw) (hc1 : raw.length ≤ c1) (hcuts : ∀ r ∈ raw, r.cuts.length ≤ 6) :
    Calls Try.prog 14 #[.slice A0 s.length c0, .slice A1 raw.length c1] w fun e w' => ∃ A' c', e = .returned (.slice A' (decodeL s raw).length c') ∧ (decodeL s raw).length ≤ c' ∧ kJb.C w' A' (decodeL s raw).length (decodeL s raw) ∧ Below w.heap.size w w' := by
  subst hs
  exact dec_any A0 c0 l turn A1 c1 raw w h0 hc0 h1 hc1 hcuts
theorem rest16 (x n : Int) (w : World) (h : 0 < n) (hn : n ≤ 1000000000000) : Calls Try.prog 16 #[.int .i64 x, .int .i64 n] w fun e w' => e = .returned (.int .i64 (x % n)) ∧ w' = w := by
  have h0 : ¬ n = 0 := by omega
  have h0' : (n == 0) = false := by simp; omega
  have h1 := Int.tmod_lt_of_pos x h
  have h2 : -n < x.tmod n := neg_lt_tmod x n h
  have hv := rest_val x n h
  rw [Int.tmod_eq_emod_of_nonneg (by omega)] at hv
  have HV := Lib.hid hv
  clear hv
  go_enter Try.func16, Try.ntmps16
  go_wp2
  go_ret
  refine ⟨?_, rfl⟩
  rw [← HV.out]
  rfl
theorem rest16g {x n g : Int} (w : World) (h : 0 < n) (hn : n ≤ 1000000000000) (hg : x % n = g) : Calls Try.prog 16 #[.int .i64 x, .int .i64 n] w fun e w' => e = .returned (.int .i64 g) ∧ w' = w := by
  rw [← hg]; exact rest16 x n w h hn
theorem rest16a {x n g : Int} (w : World) (h : 0 < n) (hn : n ≤ 1000000000000) (hg : x % n = g) : Calls Try.prog 16 #[.int .i64 x, .int .i64 n] w fun e w' => e = .returned (.int .i64 g) ∧ w = w' := by
  rw [← hg]; exact (rest16 x n w h hn).mono fun _ _ ⟨a, b⟩ => ⟨a, b.symm⟩
end Go.Proofs.Ytcdmgalhboijcaa.Pu
