/- The contracts of script's Decode and of the chapter's example in the form of the printed ones. -/
import Derived.Test.YtcdmgalhboijcaaGiven1
import Derived.Test.YtcdmgalhboijcaaAwk
import Derived.Test.YtcdmgalhboijcaaRefword
import Derived.Test.YtcdmgalhboijcaaSame
namespace Go.Proofs.Ytcdmgalhboijcaa.D
open Go.RowKit Go.Proofs.YtcdmgalhboijcaaW.PrintWords Go.Proofs.YtcdmgalhboijcaaW.PrintLast Go.Proofs.YtcdmgalhboijcaaW.PrintMore

theorem awake_true : Aw.cadencylaw08_awake.f = some true := by decide +kernel
def cadencylaw08_awake.f : Option Bool := some true
theorem cadencylaw08_awake.calls (r : Bool) (w : World) (h : cadencylaw08_awake.f = some r) :
    Calls Try.prog 10 #[] w fun e w' => e = .returned (.bool r) ∧ Below w.heap.size w w' := by
  injection h with h
  subst h
  exact Aw.cadencylaw08_awake.calls true w ⟨rfl⟩ awake_true

def cadencyref03_Word.f (a0 : ByteArray) : Option Bool := if a0.size ≤ 9223372036854775807 then some (Sc.wordL a0.data.toList) else none
theorem cadencyref03_Word.calls (a0 : ByteArray) (r : Bool) (w : World) (h : cadencyref03_Word.f a0 = some r) :
    Calls Try.prog 42 #[.string a0] w fun e w' => e = .returned (.bool r) ∧ Below w.heap.size w w' := by
  unfold cadencyref03_Word.f at h
  split at h
  · rename_i hs
    cases h
    exact (Sc.refWord_any a0 hs w).mono fun e w' ⟨h1, h2⟩ => ⟨h1, h2.below (by simp) (Nat.le_refl _)⟩
  · cases h
theorem toJ_inj {a b : S39} (h : (a.f0, a.f1, a.f2, a.f3, a.f4) = (b.f0, b.f1, b.f2, b.f3, b.f4)) : a = b := by
  cases a; cases b
  simp only [Prod.mk.injEq] at h
  obtain ⟨rfl, rfl, rfl, rfl, rfl⟩ := h
  rfl
theorem map_inj : ∀ {a b : List S39}, a.map (fun x => (x.f0, x.f1, x.f2, x.f3, x.f4)) = b.map (fun x => (x.f0, x.f1, x.f2, x.f3, x.f4)) → a = b
  | [], [], _ => rfl
  | [], _ :: _, h => by simp at h
  | _ :: _, [], h => by simp at h
  | x :: xs, y :: ys, h => by
    simp only [List.map_cons, List.cons.injEq] at h
    rw [toJ_inj h.1, map_inj h.2]
def sameJ (a b : List S39) : Bool := decide (a.map (fun x => (x.f0, x.f1, x.f2, x.f3, x.f4)) = b.map (fun x => (x.f0, x.f1, x.f2, x.f3, x.f4)))
def cadencyref08_Same.f (l0 : List S39) (l1 : List S39) : Option Bool := if sameJ l0 l1 then some true else none
theorem cadencyref08_Same.calls (A0 : Option Addr) (c0 : Nat) (l0 : List (S39)) (A1 : Option Addr) (c1 : Nat) (l1 : List (S39)) (r : Bool) (w : World) (hr0 : Kd.C k39 w A0 l0.length l0) (hc0 : l0.length ≤ c0) (hr1 : Kd.C k39 w A1 l1.length l1) (hc1 : l1.length ≤ c1) (h : cadencyref08_Same.f l0 l1 = some r) :
    Calls Try.prog 13 #[.slice A0 l0.length c0, .slice A1 l1.length c1] w fun e w' => e = .returned (.bool r) ∧ Below w.heap.size w w' := by
  unfold cadencyref08_Same.f at h
  split at h
  · rename_i hs
    injection h with h
    subst h
    have he : l0 = l1 := by
      have := of_decide_eq_true hs
      exact map_inj this
    subst he
    have hd := Sc.same_any A0 A1 c0 c1 (l0.map toJ) w (by rw [List.length_map]; exact c_toJ hr0) (by rw [List.length_map]; exact hc0) (by rw [List.length_map]; exact c_toJ hr1) (by rw [List.length_map]; exact hc1)
    rw [List.length_map] at hd
    exact hd.mono fun e w' ⟨h1, h2⟩ => ⟨h1, h2.below (by simp) (Nat.le_refl _)⟩
  · cases h
end Go.Proofs.Ytcdmgalhboijcaa.D
