/- The document's Few, walked. -/
import Derived.Test.YtcdmgalhboijcaaLawkit
import Derived.Test.YtcdmgalhboijcaaPlast
import Derived.Test.YtcdmgalhboijcaaWNEv
set_option linter.unusedVariables false
set_option linter.unusedSimpArgs false
namespace Go.Proofs.Ytcdmgalhboijcaa.Sc
open Go.RowKit Go.Proofs.Ytcdmgalhboijcaa.D Go.Proofs.YtcdmgalhboijcaaW.PrintWords Go.Proofs.YtcdmgalhboijcaaW.PrintLast Go.Proofs.Ytcdmgalhboijcaa.Pu

theorem kRw_mk (w : World) (x : Rw) (A : Option Addr) (c : Nat) (hl : x.cuts.length ≤ c) (h : (Kd.int .i64).C w A x.cuts.length x.cuts) : kRw.K w x [.int .i64 x.task, .int .i64 x.gap, .int .i64 x.late, .int .i64 x.work, .slice A x.cuts.length c] :=
  ⟨[.int .i64 x.task], [.int .i64 x.gap, .int .i64 x.late, .int .i64 x.work, .slice A x.cuts.length c], rfl, rfl, ⟨[.int .i64 x.gap], [.int .i64 x.late, .int .i64 x.work, .slice A x.cuts.length c], rfl, rfl, ⟨[.int .i64 x.late], [.int .i64 x.work, .slice A x.cuts.length c], rfl, rfl, ⟨[.int .i64 x.work], [.slice A x.cuts.length c], rfl, rfl, ⟨A, c, rfl, hl, h⟩⟩⟩⟩⟩
theorem kJb_mk (w : World) (x : Jb) (A : Option Addr) (c : Nat) (hl : x.cuts.length ≤ c) (h : (Kd.int .i64).C w A x.cuts.length x.cuts) : kJb.K w x [.int .i64 x.task, .int .i64 x.arrive, .int .i64 x.release, .int .i64 x.work, .slice A x.cuts.length c] :=
  ⟨[.int .i64 x.task], [.int .i64 x.arrive, .int .i64 x.release, .int .i64 x.work, .slice A x.cuts.length c], rfl, rfl, ⟨[.int .i64 x.arrive], [.int .i64 x.release, .int .i64 x.work, .slice A x.cuts.length c], rfl, rfl, ⟨[.int .i64 x.release], [.int .i64 x.work, .slice A x.cuts.length c], rfl, rfl, ⟨[.int .i64 x.work], [.slice A x.cuts.length c], rfl, rfl, ⟨A, c, rfl, hl, h⟩⟩⟩⟩⟩
theorem kRw_inv {w : World} {x : Rw} {a b c d : Int} {A : Option Addr} {n cp : Nat} (h : kRw.K w x [.int .i64 a, .int .i64 b, .int .i64 c, .int .i64 d, .slice A n cp]) : n ≤ cp ∧ (Kd.int .i64).C w A x.cuts.length x.cuts := by
  obtain ⟨A4, c4, he, hl, hC⟩ := kRw_open h
  simp only [List.cons.injEq, Value.slice.injEq, and_true] at he
  obtain ⟨_, _, _, _, rfl, rfl, rfl⟩ := he
  exact ⟨hl, hC⟩
theorem kJb_inv {w : World} {x : Jb} {a b c d : Int} {A : Option Addr} {n cp : Nat} (h : kJb.K w x [.int .i64 a, .int .i64 b, .int .i64 c, .int .i64 d, .slice A n cp]) : n ≤ cp ∧ (Kd.int .i64).C w A x.cuts.length x.cuts := by
  obtain ⟨A4, c4, he, hl, hC⟩ := kJb_open h
  simp only [List.cons.injEq, Value.slice.injEq, and_true] at he
  obtain ⟨_, _, _, _, rfl, rfl, rfl⟩ := he
  exact ⟨hl, hC⟩
theorem info36 : (Try.prog.info? 36).map (fun i => (i.zero, i.size, i.bytes)) = some (some (.agg #[.int .i64 0, .int .i64 0, .int .i64 0, .int .i64 0, .slice none 0 0]), 5, 56) := by kernel_rfl

def cut5 (r : Rw) : Rw := ⟨r.task, r.gap % 12, r.late, r.work, r.cuts.take 5⟩
def few8 (l : List Rw) : List Rw := (l.take 12).map cut5
set_option maxHeartbeats 8000000 in
theorem few8_any (A : Option Addr) (c : Nat) (l : List Rw) (w : World) (h : kRw.C w A l.length l) (hc : l.length ≤ c) :
    Calls Try.prog 17 #[.slice A l.length c, .int .i64 12] w fun e w' => ∃ A' c', e = .returned (.slice A' (few8 l).length c') ∧ (few8 l).length ≤ c' ∧ kRw.C w' A' (few8 l).length (few8 l) ∧ Below w.heap.size w w' := by
  have hu36 := Try.underlying36
  have H := Lib.hid h
  have HC := Lib.hid hc
  have HF := Lib.hid (Kd.C_F heapRw h)
  have hm1 : l.length ≤ 9223372036854775807 := h.2.1
  clear h hc
  go_enter Try.func17, Try.ntmps17
  go_wp2_with fail
  go_loopg [5, 6] (12) (fun gh v iv wr => ∃ (i : Nat), 12 - i ≤ gh ∧ iv = .int .i64 i ∧ i ≤ 12 ∧ i ≤ l.length ∧ Kd.N kRw 36 wr w.heap.size (fun _ => True) v ((l.take i).map cut5) ∧ Below w.heap.size w wr)
  case atStart => exact ⟨0, by omega, rfl, by omega, by omega, Kd.N_nil _ _ _ _ _, Below.refl _ _⟩
  case round =>
    obtain ⟨i, hgh, rfl, hi12, hil, hN, hB⟩ := hrel
    have HN := Lib.hid hN
    have HB := Lib.hid hB
    clear hN hB
    by_cases hgo : i < l.length ∧ i < 12
    · obtain ⟨hlt, hlt2⟩ := hgo
      obtain ⟨r, hr⟩ : ∃ r, l[i]? = some r := ⟨l[i], by simp [hlt]⟩
      have hCw := Kd.C_below H.out HB.out
      rcases c_addr hCw (by decide) with he | ⟨b3, o3, ha3⟩
      · rw [he] at hlt; simp at hlt
      subst ha3
      have hFw := Kd.F_below HF.out HB.out
      obtain ⟨ad, cs, had, hcl, hfk, hcc, _⟩ := Kd.F_get hFw ⟨0, 0, 0, 0, []⟩ (i : Int) (by omega) (by omega)
      injection had with had
      subst had
      have hgd : l.getD (Int.toNat (i : Int)) ⟨0, 0, 0, 0, []⟩ = r := by rw [List.getD_eq_getElem?_getD]; simp [hr]
      rw [hgd] at hfk
      obtain ⟨A6, c6, rfl, hl6, _⟩ := kRw_open (Kd.FK_now hfk)
      simp only [Int.toNat_natCast, addr_add] at hcc
      have r0 : wr.cell? ⟨b3, o3 + i * 5, none⟩ = some (.int .i64 r.task) := hcc 0 _ rfl
      have r1 : wr.cell? ⟨b3, o3 + i * 5 + 1, none⟩ = some (.int .i64 r.gap) := hcc 1 _ rfl
      have r2 : wr.cell? ⟨b3, o3 + i * 5 + 2, none⟩ = some (.int .i64 r.late) := hcc 2 _ rfl
      have r3 : wr.cell? ⟨b3, o3 + i * 5 + 3, none⟩ = some (.int .i64 r.work) := hcc 3 _ rfl
      have r4 : wr.cell? ⟨b3, o3 + i * 5 + 4, none⟩ = some (.slice A6 r.cuts.length c6) := hcc 4 _ rfl
      have etk : (l.take (i + 1)).map cut5 = (l.take i).map cut5 ++ [cut5 r] := by rw [List.take_add_one, hr]; simp
      have hml2 : ((l.take i).map cut5).length ≤ 12 := by simp; omega
      have HFK0 := Lib.hid hfk
      have HTK := Lib.hid etk
      obtain ⟨g, hg⟩ : ∃ g, r.gap % 12 = g := ⟨_, rfl⟩
      have HG := Lib.hid hg
      have hbs := HB.out.size
      have hlt' : (i : Int) < (l.length : Int) := by omega
      have hlt12 : (i : Int) < 12 := by omega
      have hd1 : decide ((i : Int) < (l.length : Int)) = true := decide_eq_true hlt'
      have hd2 : decide ((i : Int) < 12) = true := decide_eq_true hlt12
      clear hgd hfk hcc hcl hr hCw hFw hg etk
      by_cases h5 : 5 < r.cuts.length
      · have e5 : (r.cuts.take 5).length = 5 := by simp; omega
        have hfk2 : Kd.FK kRw wr (fun q => q < w.heap.size) (cut5 r) [.int .i64 r.task, .int .i64 g, .int .i64 r.late, .int .i64 r.work, .slice A6 5 c6] :=
          Foot.imp HFK0.out (fun W' hk => by
            have h2 := kRw_mk W' (cut5 r) A6 c6 (show (r.cuts.take 5).length ≤ c6 by omega) (Kd.C_take (m := 5) (kRw_inv hk).2 (by omega))
            rw [show (cut5 r).cuts.length = 5 from e5, show (cut5 r).gap = g from HG.out] at h2
            exact h2)
        have HFK := Lib.hid hfk2
        have h5c : (5 : Int) ≤ (c6 : Int) := by omega
        clear hfk2 e5
        go_wp2_with (first
          | (go_at_call 29; refine (rest29a (g := g) _ (by omega) (by omega) HG.out).mono ?_; rintro e w' ⟨rfl, rfl⟩)
          | ((with_reducible refine gate_builtin (b := .append) (xs := #[.tmp 35, .tmp 37]) rfl ?_)
             at_builtin
             refine Kd.N_append kRw (w0 := w) w.heap.size rfl (.tmp 35) (.tmp 37) 23 36 (.agg #[.int .i64 0, .int .i64 0, .int .i64 0, .int .i64 0, .slice none 0 0]) 56 rfl Try.underlying23 info36 rfl (by decide) (by omega) _ ((l.take i).map cut5) (cut5 r) [.int .i64 r.task, .int .i64 g, .int .i64 r.late, .int .i64 r.work, .slice A6 5 c6] (fun _ => True) (fun q => q < w.heap.size) rfl (by first | (go_simp; done) | (go_simp; rfl) | (simp; rfl) | (rw [hwsz]; rfl)) (Kd.FK_below HFK.out (below_alloc (Below.refl _ _) _)) ?okp ?fresh (Kd.N_alloc HN.out _) (HB.out.alloc hbs _) (Nat.le_trans hbs (by simp)) (by omega) ?_
             case okp =>
               intro q hq
               refine ⟨trivial, fun e => ?_⟩
               have h1 := Kd.N_base HN.out q e.symm
               omega
             case fresh => intro q hq; trivial
             intro v1 w1 ho hb _ _))
        go_roundg (12 - (i + 1))
        case rel => exact ⟨i + 1, Nat.le_refl _, by go_num, by omega, by omega, by rw [HTK.out]; exact ho, hb⟩
        case measure => omega
      · have e5 : r.cuts.take 5 = r.cuts := List.take_of_length_le (by omega)
        have hfk2 : Kd.FK kRw wr (fun q => q < w.heap.size) (cut5 r) [.int .i64 r.task, .int .i64 g, .int .i64 r.late, .int .i64 r.work, .slice A6 r.cuts.length c6] :=
          Foot.imp HFK0.out (fun W' hk => by
            have h2 := kRw_mk W' (cut5 r) A6 c6 (show (r.cuts.take 5).length ≤ c6 by rw [e5]; exact hl6) (show (Kd.int .i64).C W' A6 (r.cuts.take 5).length (r.cuts.take 5) by rw [e5]; exact (kRw_inv hk).2)
            rw [show (cut5 r).cuts.length = r.cuts.length from by show (r.cuts.take 5).length = _; rw [e5], show (cut5 r).gap = g from HG.out] at h2
            exact h2)
        have HFK := Lib.hid hfk2
        clear hfk2 e5
        go_wp2_with (first
          | (go_at_call 29; refine (rest29a (g := g) _ (by omega) (by omega) HG.out).mono ?_; rintro e w' ⟨rfl, rfl⟩)
          | ((with_reducible refine gate_builtin (b := .append) (xs := #[.tmp 35, .tmp 37]) rfl ?_)
             at_builtin
             refine Kd.N_append kRw (w0 := w) w.heap.size rfl (.tmp 35) (.tmp 37) 23 36 (.agg #[.int .i64 0, .int .i64 0, .int .i64 0, .int .i64 0, .slice none 0 0]) 56 rfl Try.underlying23 info36 rfl (by decide) (by omega) _ ((l.take i).map cut5) (cut5 r) [.int .i64 r.task, .int .i64 g, .int .i64 r.late, .int .i64 r.work, .slice A6 r.cuts.length c6] (fun _ => True) (fun q => q < w.heap.size) rfl (by first | (go_simp; done) | (go_simp; rfl) | (simp; rfl) | (rw [hwsz]; rfl)) (Kd.FK_below HFK.out (below_alloc (Below.refl _ _) _)) ?okp ?fresh (Kd.N_alloc HN.out _) (HB.out.alloc hbs _) (Nat.le_trans hbs (by simp)) (by omega) ?_
             case okp =>
               intro q hq
               refine ⟨trivial, fun e => ?_⟩
               have h1 := Kd.N_base HN.out q e.symm
               omega
             case fresh => intro q hq; trivial
             intro v1 w1 ho hb _ _))
        go_roundg (12 - (i + 1))
        case rel => exact ⟨i + 1, Nat.le_refl _, by go_num, by omega, by omega, by rw [HTK.out]; exact ho, hb⟩
        case measure => omega
    · have e8 : (l.take i).map cut5 = few8 l := by
        unfold few8
        by_cases h : i = 12
        · rw [h]
        · rw [List.take_of_length_le (show l.length ≤ i by omega), List.take_of_length_le (show l.length ≤ 12 by omega)]
      have hn := HN.out
      rw [e8] at hn
      have HN8 := Lib.hid hn
      clear HN hn e8
      have hg2 : ¬ i < l.length ∨ (i < l.length ∧ ¬ i < 12) := by omega
      rcases hg2 with hg | ⟨hg, hg'⟩
      case' inl =>
        have gd1 : decide ((i : Int) < (l.length : Int)) = false := decide_eq_false (by omega)
        have gd2 : decide (i < l.length) = false := decide_eq_false hg
        clear hg hgo
      case' inr =>
        have gd1 : decide ((i : Int) < (l.length : Int)) = true := decide_eq_true (by omega)
        have gd2 : decide (i < l.length) = true := decide_eq_true hg
        have gd3 : decide ((i : Int) < 12) = false := decide_eq_false (by omega)
        have gd4 : decide (i < 12) = false := decide_eq_false hg'
        clear hg hg' hgo
      all_goals
        obtain ⟨A', c', rfl, hc', hC'⟩ := Kd.N_reads HN8.out
        have HC8 := Lib.hid hC'
        have HCL8 := Lib.hid hc'
        clear hC' hc'
        go_wp2
        go_ret
        exact ⟨A', c', rfl, HCL8.out, HC8.out, HB.out⟩
end Go.Proofs.Ytcdmgalhboijcaa.Sc
/- Rows of the call's own whose elements are jobs, or raw jobs: what a field's store leaves. -/
set_option linter.unusedVariables false
set_option linter.unusedSimpArgs false
namespace Go.Proofs.Ytcdmgalhboijcaa.Sc
open Go.RowKit Go.Proofs.Ytcdmgalhboijcaa.D Go.Proofs.YtcdmgalhboijcaaW.PrintWords Go.Proofs.YtcdmgalhboijcaaW.PrintLast Go.Proofs.Ytcdmgalhboijcaa.Pu

def noRw : Rw := ⟨0, 0, 0, 0, []⟩
def noJb : Jb := ⟨0, 0, 0, 0, []⟩
def setJ (r : Jb) (f : Nat) (v : Int) : Jb :=
  match f with
  | 0 => ⟨v, r.arrive, r.release, r.work, r.cuts⟩
  | 1 => ⟨r.task, v, r.release, r.work, r.cuts⟩
  | 2 => ⟨r.task, r.arrive, v, r.work, r.cuts⟩
  | _ => ⟨r.task, r.arrive, r.release, v, r.cuts⟩
theorem getD_of {α : Type} {xs : List α} {i : Nat} {x z : α} (h : xs[i]? = some x) : xs.getD (Int.toNat (i : Int)) z = x := by
  rw [List.getD_eq_getElem?_getD]
  simp [h]
theorem lt_of_get {α : Type} {xs : List α} {i : Nat} {x : α} (h : xs[i]? = some x) : i < xs.length := by
  rcases Nat.lt_or_ge i xs.length with h' | h'
  · exact h'
  · rw [List.getElem?_eq_none h'] at h; cases h
section
variable {w : World} {base g n cap i : Nat} {ok : Nat → Prop}
theorem jb_at {xs : List Jb} {r : Jb} (h : Kd.N kJb 39 w base ok (.slice (some ⟨g, 0, none⟩) n cap) xs) (hr : xs[i]? = some r) :
    ∃ A c, r.cuts.length ≤ c ∧ (Kd.int .i64).C w A r.cuts.length r.cuts ∧ Kd.FK kJb w (fun k => ok k ∧ k ≠ g) r [.int .i64 r.task, .int .i64 r.arrive, .int .i64 r.release, .int .i64 r.work, .slice A r.cuts.length c] ∧
      w.cell? ⟨g, i * 5, none⟩ = some (.int .i64 r.task) ∧ w.cell? ⟨g, i * 5 + 1, none⟩ = some (.int .i64 r.arrive) ∧ w.cell? ⟨g, i * 5 + 2, none⟩ = some (.int .i64 r.release) ∧ w.cell? ⟨g, i * 5 + 3, none⟩ = some (.int .i64 r.work) ∧ w.cell? ⟨g, i * 5 + 4, none⟩ = some (.slice A r.cuts.length c) ∧ ∀ j, w.frozen? ⟨g, i * 5 + j, none⟩ = false := by
  have hi := lt_of_get hr
  obtain ⟨hn, _, _⟩ := Kd.N_reads' h
  obtain ⟨c, hcl, hM, hcc, hfr⟩ := Kd.N_elem h noJb (i : Int) (by omega) (by omega)
  rw [getD_of hr] at hM
  obtain ⟨A, c4, rfl, hl, hC⟩ := kJb_open (Kd.FK_now hM)
  simp only [Int.toNat_natCast] at hcc hfr
  exact ⟨A, c4, hl, hC, hM, hcc 0 _ rfl, hcc 1 _ rfl, hcc 2 _ rfl, hcc 3 _ rfl, hcc 4 _ rfl, hfr⟩
theorem jb_set {xs : List Jb} {r : Jb} (h : Kd.N kJb 39 w base ok (.slice (some ⟨g, 0, none⟩) n cap) xs) (hr : xs[i]? = some r) (f : Nat) (hf : f < 4) (v : Int) :
    Kd.N kJb 39 (w.setCell ⟨g, i * 5 + f, none⟩ (.int .i64 v)) base ok (.slice (some ⟨g, 0, none⟩) n cap) (xs.set i (setJ r f v)) := by
  have hi := lt_of_get hr
  obtain ⟨hn, _, _⟩ := Kd.N_reads' h
  obtain ⟨c, hcl, hM, hcc, hfr⟩ := Kd.N_elem h noJb (i : Int) (by omega) (by omega)
  rw [getD_of hr] at hM
  obtain ⟨A, c4, rfl, hl, hC⟩ := kJb_open (Kd.FK_now hM)
  have hx : ∀ x' : Jb, x'.cuts = r.cuts → Kd.FK kJb w (fun k => ok k ∧ k ≠ g) x' [.int .i64 x'.task, .int .i64 x'.arrive, .int .i64 x'.release, .int .i64 x'.work, .slice A r.cuts.length c4] := fun x' hc' =>
    Foot.imp hM (fun W' hk => by
      have h2 := kJb_mk W' x' A c4 (by rw [hc']; exact hl) (by rw [hc']; exact (kJb_inv hk).2)
      rwa [hc'] at h2)
  match f, hf with
  | 0, _ => exact (Kd.N_seg h (i : Int) (by omega) (by omega) (seg := [.int .i64 v]) (j := 0) (x' := setJ r 0 v) hcl hcc (show 1 ≤ 5 from by decide) (hx (setJ r 0 v) rfl) (fun _ hk => hk)).1
  | 1, _ => exact (Kd.N_seg h (i : Int) (by omega) (by omega) (seg := [.int .i64 v]) (j := 1) (x' := setJ r 1 v) hcl hcc (show 2 ≤ 5 from by decide) (hx (setJ r 1 v) rfl) (fun _ hk => hk)).1
  | 2, _ => exact (Kd.N_seg h (i : Int) (by omega) (by omega) (seg := [.int .i64 v]) (j := 2) (x' := setJ r 2 v) hcl hcc (show 3 ≤ 5 from by decide) (hx (setJ r 2 v) rfl) (fun _ hk => hk)).1
  | 3, _ => exact (Kd.N_seg h (i : Int) (by omega) (by omega) (seg := [.int .i64 v]) (j := 3) (x' := setJ r 3 v) hcl hcc (show 4 ≤ 5 from by decide) (hx (setJ r 3 v) rfl) (fun _ hk => hk)).1
theorem rw_at {xs : List Rw} {r : Rw} (h : Kd.N kRw 36 w base ok (.slice (some ⟨g, 0, none⟩) n cap) xs) (hr : xs[i]? = some r) :
    ∃ A c, r.cuts.length ≤ c ∧ (Kd.int .i64).C w A r.cuts.length r.cuts ∧ Kd.FK kRw w (fun k => ok k ∧ k ≠ g) r [.int .i64 r.task, .int .i64 r.gap, .int .i64 r.late, .int .i64 r.work, .slice A r.cuts.length c] ∧
      w.cell? ⟨g, i * 5, none⟩ = some (.int .i64 r.task) ∧ w.cell? ⟨g, i * 5 + 1, none⟩ = some (.int .i64 r.gap) ∧ w.cell? ⟨g, i * 5 + 2, none⟩ = some (.int .i64 r.late) ∧ w.cell? ⟨g, i * 5 + 3, none⟩ = some (.int .i64 r.work) ∧ w.cell? ⟨g, i * 5 + 4, none⟩ = some (.slice A r.cuts.length c) ∧ ∀ j, w.frozen? ⟨g, i * 5 + j, none⟩ = false := by
  have hi := lt_of_get hr
  obtain ⟨hn, _, _⟩ := Kd.N_reads' h
  obtain ⟨c, hcl, hM, hcc, hfr⟩ := Kd.N_elem h noRw (i : Int) (by omega) (by omega)
  rw [getD_of hr] at hM
  obtain ⟨A, c4, rfl, hl, hC⟩ := kRw_open (Kd.FK_now hM)
  simp only [Int.toNat_natCast] at hcc hfr
  exact ⟨A, c4, hl, hC, hM, hcc 0 _ rfl, hcc 1 _ rfl, hcc 2 _ rfl, hcc 3 _ rfl, hcc 4 _ rfl, hfr⟩
theorem rw_gap {xs : List Rw} {r : Rw} (h : Kd.N kRw 36 w base ok (.slice (some ⟨g, 0, none⟩) n cap) xs) (hr : xs[i]? = some r) (v : Int) :
    Kd.N kRw 36 (w.setCell ⟨g, i * 5 + 1, none⟩ (.int .i64 v)) base ok (.slice (some ⟨g, 0, none⟩) n cap) (xs.set i ⟨r.task, v, r.late, r.work, r.cuts⟩) := by
  have hi := lt_of_get hr
  obtain ⟨hn, _, _⟩ := Kd.N_reads' h
  obtain ⟨c, hcl, hM, hcc, hfr⟩ := Kd.N_elem h noRw (i : Int) (by omega) (by omega)
  rw [getD_of hr] at hM
  obtain ⟨A, c4, rfl, hl, hC⟩ := kRw_open (Kd.FK_now hM)
  have hx : Kd.FK kRw w (fun k => ok k ∧ k ≠ g) ⟨r.task, v, r.late, r.work, r.cuts⟩ [.int .i64 r.task, .int .i64 v, .int .i64 r.late, .int .i64 r.work, .slice A r.cuts.length c4] :=
    Foot.imp hM (fun W' hk => kRw_mk W' ⟨r.task, v, r.late, r.work, r.cuts⟩ A c4 hl (kRw_inv hk).2)
  exact (Kd.N_seg h (i : Int) (by omega) (by omega) (seg := [.int .i64 v]) (j := 1) (x' := ⟨r.task, v, r.late, r.work, r.cuts⟩) hcl hcc (show 2 ≤ 5 from by decide) hx (fun _ hk => hk)).1
end
theorem dec_anyN {s : List Tsk} {l : List S52} {turn : Int} (hs : s = setT l turn) (A0 : Option Addr) (c0 : Nat) (A1 : Option Addr) (c1 : Nat) (raw : List Rw) (w : World)
    (h0 : kTsk.C w A0 s.length s) (hc0 : s.length ≤ c0) (h1 : kRw.C w A1 raw.length raw) (hc1 : raw.length ≤ c1) (hcuts : ∀ r ∈ raw, r.cuts.length ≤ 6) :
    Calls Try.prog 14 #[.slice A0 s.length c0, .slice A1 raw.length c1] w fun e w' => ∃ A' c', e = .returned (.slice A' (decodeL s raw).length c') ∧ (decodeL s raw).length ≤ c' ∧ Kd.N kJb 39 w' w.heap.size (fun _ => True) (.slice A' (decodeL s raw).length c') (decodeL s raw) ∧ Below w.heap.size w w' := by
  subst hs
  have h := setT_ok l turn
  refine (decode_any A0 c0 (setT l turn) A1 c1 raw w h.1 h.2 h0 hc0 h1 hc1 (fun r hr => by have := hcuts r hr; omega)).mono ?_
  rintro e w' ⟨v, rfl, hS, hB⟩
  have hN := Kd.S_N hS
  obtain ⟨A', c', rfl, hc', hC'⟩ := Kd.R_reads (Kd.S_R hS)
  exact ⟨A', c', rfl, hc', hN, hB⟩
end Go.Proofs.Ytcdmgalhboijcaa.Sc
