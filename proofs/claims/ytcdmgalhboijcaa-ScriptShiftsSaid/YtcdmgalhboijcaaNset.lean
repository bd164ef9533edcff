/- Rows of the call's own whose elements are jobs, or raw jobs: what a field's store leaves. -/
import Derived.Test.YtcdmgalhboijcaaWkfew8
import Derived.Test.YtcdmgalhboijcaaWNEv
set_option linter.unusedVariables false
set_option linter.unusedSimpArgs false
namespace Go.Proofs.Ytcdmgalhboijcaa.Sc
open Go.RowKit Go.Proofs.Ytcdmgalhboijcaa.D Go.Proofs.YtcdmgalhboijcaaW.PrintWords Go.Proofs.YtcdmgalhboijcaaW.PrintLast Go.Proofs.Ytcdmgalhboijcaa.Pu

def noRw : Rw := ⟨0, 0, 0, 0, []⟩
def noJb : Jb := ⟨0, 0, 0, 0, []⟩
def setJ (r : Jb) (f : Nat) (v : Int) : Jb :=
  match f with
  | 0 => ⟨v, r.arrive, r.release, r.work, r.cuts⟩
  | 1 => ⟨r.task, v, r.release, r.work, r.cuts⟩
  | 2 => ⟨r.task, r.arrive, v, r.work, r.cuts⟩
  | _ => ⟨r.task, r.arrive, r.release, v, r.cuts⟩
theorem getD_of {α : Type} {xs : List α} {i : Nat} {x z : α} (h : xs[i]? = some x) : xs.getD (Int.toNat (i : Int)) z = x := by
  rw [List.getD_eq_getElem?_getD]
  simp [h]
theorem lt_of_get {α : Type} {xs : List α} {i : Nat} {x : α} (h : xs[i]? = some x) : i < xs.length := by
  rcases Nat.lt_or_ge i xs.length with h' | h'
  · exact h'
  · rw [List.getElem?_eq_none h'] at h; cases h
section
variable {w : World} {base g n cap i : Nat} {ok : Nat → Prop}
theorem jb_at {xs : List Jb} {r : Jb} (h : Kd.N kJb 39 w base ok (.slice (some ⟨g, 0, none⟩) n cap) xs) (hr : xs[i]? = some r) :
    ∃ A c, r.cuts.length ≤ c ∧ (Kd.int .i64).C w A r.cuts.length r.cuts ∧ Kd.FK kJb w (fun k => ok k ∧ k ≠ g) r [.int .i64 r.task, .int .i64 r.arrive, .int .i64 r.release, .int .i64 r.work, .slice A r.cuts.length c] ∧
      w.cell? ⟨g, i * 5, none⟩ = some (.int .i64 r.task) ∧ w.cell? ⟨g, i * 5 + 1, none⟩ = some (.int .i64 r.arrive) ∧ w.cell? ⟨g, i * 5 + 2, none⟩ = some (.int .i64 r.release) ∧ w.cell? ⟨g, i * 5 + 3, none⟩ = some (.int .i64 r.work) ∧ w.cell? ⟨g, i * 5 + 4, none⟩ = some (.slice A r.cuts.length c) ∧ ∀ j, w.frozen? ⟨g, i * 5 + j, none⟩ = false := by
  have hi := lt_of_get hr
  obtain ⟨hn, _, _⟩ := Kd.N_reads' h
  obtain ⟨c, hcl, hM, hcc, hfr⟩ := Kd.N_elem h noJb (i : Int) (by omega) (by omega)
  rw [getD_of hr] at hM
  obtain ⟨A, c4, rfl, hl, hC⟩ := kJb_open (Kd.FK_now hM)
  simp only [Int.toNat_natCast] at hcc hfr
  exact ⟨A, c4, hl, hC, hM, hcc 0 _ rfl, hcc 1 _ rfl, hcc 2 _ rfl, hcc 3 _ rfl, hcc 4 _ rfl, hfr⟩
theorem jb_set {xs : List Jb} {r : Jb} (h : Kd.N kJb 39 w base ok (.slice (some ⟨g, 0, none⟩) n cap) xs) (hr : xs[i]? = some r) (f : Nat) (hf : f < 4) (v : Int) :
    Kd.N kJb 39 (w.setCell ⟨g, i * 5 + f, none⟩ (.int .i64 v)) base ok (.slice (some ⟨g, 0, none⟩) n cap) (xs.set i (setJ r f v)) := by
  have hi := lt_of_get hr
  obtain ⟨hn, _, _⟩ := Kd.N_reads' h
  obtain ⟨c, hcl, hM, hcc, hfr⟩ := Kd.N_elem h noJb (i : Int) (by omega) (by omega)
  rw [getD_of hr] at hM
  obtain ⟨A, c4, rfl, hl, hC⟩ := kJb_open (Kd.FK_now hM)
  have hx : ∀ x' : Jb, x'.cuts = r.cuts → Kd.FK kJb w (fun k => ok k ∧ k ≠ g) x' [.int .i64 x'.task, .int .i64 x'.arrive, .int .i64 x'.release, .int .i64 x'.work, .slice A r.cuts.length c4] := fun x' hc' =>
    Foot.imp hM (fun W' hk => by
      have h2 := kJb_mk W' x' A c4 (by rw [hc']; exact hl) (by rw [hc']; exact (kJb_inv hk).2)
      rwa [hc'] at h2)
  match f, hf with
  | 0, _ => exact (Kd.N_seg h (i : Int) (by omega) (by omega) (seg := [.int .i64 v]) (j := 0) (x' := setJ r 0 v) hcl hcc (show 1 ≤ 5 from by decide) (hx (setJ r 0 v) rfl) (fun _ hk => hk)).1
  | 1, _ => exact (Kd.N_seg h (i : Int) (by omega) (by omega) (seg := [.int .i64 v]) (j := 1) (x' := setJ r 1 v) hcl hcc (show 2 ≤ 5 from by decide) (hx (setJ r 1 v) rfl) (fun _ hk => hk)).1
  | 2, _ => exact (Kd.N_seg h (i : Int) (by omega) (by omega) (seg := [.int .i64 v]) (j := 2) (x' := setJ r 2 v) hcl hcc (show 3 ≤ 5 from by decide) (hx (setJ r 2 v) rfl) (fun _ hk => hk)).1
  | 3, _ => exact (Kd.N_seg h (i : Int) (by omega) (by omega) (seg := [.int .i64 v]) (j := 3) (x' := setJ r 3 v) hcl hcc (show 4 ≤ 5 from by decide) (hx (setJ r 3 v) rfl) (fun _ hk => hk)).1
theorem rw_at {xs : List Rw} {r : Rw} (h : Kd.N kRw 36 w base ok (.slice (some ⟨g, 0, none⟩) n cap) xs) (hr : xs[i]? = some r) :
    ∃ A c, r.cuts.length ≤ c ∧ (Kd.int .i64).C w A r.cuts.length r.cuts ∧ Kd.FK kRw w (fun k => ok k ∧ k ≠ g) r [.int .i64 r.task, .int .i64 r.gap, .int .i64 r.late, .int .i64 r.work, .slice A r.cuts.length c] ∧
      w.cell? ⟨g, i * 5, none⟩ = some (.int .i64 r.task) ∧ w.cell? ⟨g, i * 5 + 1, none⟩ = some (.int .i64 r.gap) ∧ w.cell? ⟨g, i * 5 + 2, none⟩ = some (.int .i64 r.late) ∧ w.cell? ⟨g, i * 5 + 3, none⟩ = some (.int .i64 r.work) ∧ w.cell? ⟨g, i * 5 + 4, none⟩ = some (.slice A r.cuts.length c) ∧ ∀ j, w.frozen? ⟨g, i * 5 + j, none⟩ = false := by
  have hi := lt_of_get hr
  obtain ⟨hn, _, _⟩ := Kd.N_reads' h
  obtain ⟨c, hcl, hM, hcc, hfr⟩ := Kd.N_elem h noRw (i : Int) (by omega) (by omega)
  rw [getD_of hr] at hM
  obtain ⟨A, c4, rfl, hl, hC⟩ := kRw_open (Kd.FK_now hM)
  simp only [Int.toNat_natCast] at hcc hfr
  exact ⟨A, c4, hl, hC, hM, hcc 0 _ rfl, hcc 1 _ rfl, hcc 2 _ rfl, hcc 3 _ rfl, hcc 4 _ rfl, hfr⟩
theorem rw_gap {xs : List Rw} {r : Rw} (h : Kd.N kRw 36 w base ok (.slice (some ⟨g, 0, none⟩) n cap) xs) (hr : xs[i]? = some r) (v : Int) :
    Kd.N kRw 36 (w.setCell ⟨g, i * 5 + 1, none⟩ (.int .i64 v)) base ok (.slice (some ⟨g, 0, none⟩) n cap) (xs.set i ⟨r.task, v, r.late, r.work, r.cuts⟩) := by
  have hi := lt_of_get hr
  obtain ⟨hn, _, _⟩ := Kd.N_reads' h
  obtain ⟨c, hcl, hM, hcc, hfr⟩ := Kd.N_elem h noRw (i : Int) (by omega) (by omega)
  rw [getD_of hr] at hM
  obtain ⟨A, c4, rfl, hl, hC⟩ := kRw_open (Kd.FK_now hM)
  have hx : Kd.FK kRw w (fun k => ok k ∧ k ≠ g) ⟨r.task, v, r.late, r.work, r.cuts⟩ [.int .i64 r.task, .int .i64 v, .int .i64 r.late, .int .i64 r.work, .slice A r.cuts.length c4] :=
    Foot.imp hM (fun W' hk => kRw_mk W' ⟨r.task, v, r.late, r.work, r.cuts⟩ A c4 hl (kRw_inv hk).2)
  exact (Kd.N_seg h (i : Int) (by omega) (by omega) (seg := [.int .i64 v]) (j := 1) (x' := ⟨r.task, v, r.late, r.work, r.cuts⟩) hcl hcc (show 2 ≤ 5 from by decide) hx (fun _ hk => hk)).1
end
theorem dec_anyN {s : List Tsk} {l : List S52} {turn : Int} (hs : s = setT l turn) (A0 : Option Addr) (c0 : Nat) (A1 : Option Addr) (c1 : Nat) (raw : List Rw) (w : World)
    (h0 : kTsk.C w A0 s.length s) (hc0 : s.length ≤ c0) (h1 : kRw.C w A1 raw.length raw) (hc1 : raw.length ≤ c1) (hcuts : ∀ r ∈ raw, r.cuts.length ≤ 6) :
    Calls Try.prog 14 #[.slice A0 s.length c0, .slice A1 raw.length c1] w fun e w' => ∃ A' c', e = .returned (.slice A' (decodeL s raw).length c') ∧ (decodeL s raw).length ≤ c' ∧ Kd.N kJb 39 w' w.heap.size (fun _ => True) (.slice A' (decodeL s raw).length c') (decodeL s raw) ∧ Below w.heap.size w w' := by
  subst hs
  have h := setT_ok l turn
  refine (decode_any A0 c0 (setT l turn) A1 c1 raw w h.1 h.2 h0 hc0 h1 hc1 (fun r hr => by have := hcuts r hr; omega)).mono ?_
  rintro e w' ⟨v, rfl, hS, hB⟩
  have hN := Kd.S_N hS
  obtain ⟨A', c', rfl, hc', hC'⟩ := Kd.R_reads (Kd.S_R hS)
  exact ⟨A', c', rfl, hc', hN, hB⟩
end Go.Proofs.Ytcdmgalhboijcaa.Sc
