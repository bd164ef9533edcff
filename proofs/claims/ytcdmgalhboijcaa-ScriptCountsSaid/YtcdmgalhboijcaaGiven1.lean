/- The contract of script's Decode in the form of the printed ones. -/
import Derived.Test.YtcdmgalhboijcaaDx0
import Derived.Test.YtcdmgalhboijcaaDecode
import Derived.Test.YtcdmgalhboijcaaOpen
namespace Go.Proofs.Ytcdmgalhboijcaa.D
open Go.RowKit Go.Proofs.YtcdmgalhboijcaaW.PrintWords Go.Proofs.YtcdmgalhboijcaaW.PrintLast Go.Proofs.YtcdmgalhboijcaaW.PrintMore

def toT (x : S46) : Sc.Tsk := ⟨x.f0, x.f1, x.f2, x.f3, x.f4, x.f5, x.f6⟩
def ofT (x : Sc.Tsk) : S46 := ⟨x.nm, x.c, x.t, x.d, x.j, x.q, x.p⟩
def toR (x : S36) : Sc.Rw := ⟨x.f0, x.f1, x.f2, x.f3, x.f4⟩
def ofR (x : Sc.Rw) : S36 := ⟨x.task, x.gap, x.late, x.work, x.cuts⟩
def toJ (x : S39) : Sc.Jb := ⟨x.f0, x.f1, x.f2, x.f3, x.f4⟩
def ofJ (x : Sc.Jb) : S39 := ⟨x.task, x.arrive, x.release, x.work, x.cuts⟩
def ofS (x : Sc.Sp) : S52 := ⟨x.c, x.d, x.j, x.q, x.t⟩
theorem c_toT {w : World} {A : Option Addr} {n : Nat} {xs : List S46} (h : Kd.C k46 w A n xs) : Kd.C Sc.kTsk w A n (xs.map toT) := Sc.C_map toT rfl (fun h => h) h
theorem c_ofT {w : World} {A : Option Addr} {n : Nat} {xs : List Sc.Tsk} (h : Kd.C Sc.kTsk w A n xs) : Kd.C k46 w A n (xs.map ofT) := Sc.C_map ofT rfl (fun h => h) h
theorem c_toR {w : World} {A : Option Addr} {n : Nat} {xs : List S36} (h : Kd.C k36 w A n xs) : Kd.C Sc.kRw w A n (xs.map toR) := Sc.C_map toR rfl (fun h => h) h
theorem c_ofR {w : World} {A : Option Addr} {n : Nat} {xs : List Sc.Rw} (h : Kd.C Sc.kRw w A n xs) : Kd.C k36 w A n (xs.map ofR) := Sc.C_map ofR rfl (fun h => h) h
theorem c_toJ {w : World} {A : Option Addr} {n : Nat} {xs : List S39} (h : Kd.C k39 w A n xs) : Kd.C Sc.kJb w A n (xs.map toJ) := Sc.C_map toJ rfl (fun h => h) h
theorem c_ofS {w : World} {A : Option Addr} {n : Nat} {xs : List Sc.Sp} (h : Kd.C Sc.kSp w A n xs) : Kd.C k52 w A n (xs.map ofS) := Sc.C_map ofS rfl (fun h => h) h
theorem R_map {α β : Type} {d : Kd α} {d' : Kd β} (g : α → β) (hsz : d'.sz = d.sz) (hM : ∀ {w base ok x cs}, d.M w base ok x cs → d'.M w base ok (g x) cs) {e : Nat} {w : World} {base : Nat} {ok : Nat → Prop} {v : Value} {xs : List α} (h : d.R e w base ok v xs) : d'.R e w base ok v (xs.map g) := by
  obtain ⟨h0, inner, hown, hl, hr⟩ := h
  refine ⟨h0, inner, by rw [List.length_map, hsz]; exact hown, by rw [List.length_map, hsz]; exact hl, fun j p hj => ?_⟩
  rw [List.getElem?_map] at hj
  cases hx : xs[j]? with
  | none => rw [hx] at hj; cases hj
  | some x =>
    rw [hx] at hj
    injection hj with hj
    subst hj
    rw [hsz]
    exact hM (hr j x hx)
theorem s_ofJ {w : World} {base : Nat} {ok : Nat → Prop} {v : Value} {xs : List Sc.Jb} (h : Kd.S Sc.kJb 39 w base ok v xs) : Kd.S k39 39 w base ok v (xs.map ofJ) := by
  obtain ⟨f, h⟩ := h
  refine ⟨f, ?_⟩
  have := R_map (d' := Kd.tag f k39) (fun p : Sc.Jb × Nat => (ofJ p.1, p.2)) rfl (fun h => h) h
  rwa [show (xs.map ofJ).zipIdx = xs.zipIdx.map (fun p : Sc.Jb × Nat => (ofJ p.1, p.2)) from by rw [List.zipIdx_map]; rfl]

def okL (l : List S46) : Bool := l.all fun x => decide (x.f0.size ≤ maxLen) && decide ((Lit.int .i64 x.f6).wf = true)
def okR (l : List S36) : Bool := l.all fun x => decide (x.f4.length ≤ 17592186044416)
theorem okL_of {l : List S46} (h : okL l = true) : (∀ x ∈ l.map toT, x.nm.size ≤ maxLen) ∧ ∀ x ∈ l.map toT, (Lit.int .i64 x.p).wf = true := by
  unfold okL at h
  rw [List.all_eq_true] at h
  constructor <;>
  · intro x hx
    obtain ⟨y, hy, rfl⟩ := List.mem_map.1 hx
    have := h y hy
    simp only [Bool.and_eq_true, decide_eq_true_eq] at this
    first | exact this.1 | exact this.2
theorem okR_of {l : List S36} (h : okR l = true) : ∀ x ∈ l.map toR, x.cuts.length ≤ 17592186044416 := by
  unfold okR at h
  rw [List.all_eq_true] at h
  intro x hx
  obtain ⟨y, hy, rfl⟩ := List.mem_map.1 hx
  exact of_decide_eq_true (h y hy)

def script_Decode.f (l0 : List S46) (l1 : List S36) : Option (List S39) := if okL l0 && okR l1 then some ((Sc.decodeL (l0.map toT) (l1.map toR)).map ofJ) else none
theorem script_Decode.calls (A0 : Option Addr) (c0 : Nat) (l0 : List S46) (A1 : Option Addr) (c1 : Nat) (l1 : List S36) (r : List S39) (w : World) (hr0 : Kd.C k46 w A0 l0.length l0) (hc0 : l0.length ≤ c0) (hr1 : Kd.C k36 w A1 l1.length l1) (hc1 : l1.length ≤ c1) (h : script_Decode.f l0 l1 = some r) :
    Calls Try.prog 14 #[.slice A0 l0.length c0, .slice A1 l1.length c1] w fun e w' => ∃ v0_ : Value, e = .returned (v0_) ∧ Kd.S k39 39 w' w.heap.size (fun _ => True) v0_ r ∧ Below w.heap.size w w' := by
  unfold script_Decode.f at h
  split at h
  · rename_i hok
    simp only [Bool.and_eq_true] at hok
    injection h with h
    subst h
    have h1 := okL_of hok.1
    have hd := Sc.decode_any A0 c0 (l0.map toT) A1 c1 (l1.map toR) w h1.1 h1.2 (by rw [List.length_map]; exact c_toT hr0) (by rw [List.length_map]; exact hc0) (by rw [List.length_map]; exact c_toR hr1) (by rw [List.length_map]; exact hc1) (okR_of hok.2)
    rw [List.length_map, List.length_map] at hd
    refine hd.mono ?_
    rintro e w' ⟨v, rfl, hR, hB⟩
    exact ⟨v, rfl, s_ofJ hR, hB⟩
  · cases h
end Go.Proofs.Ytcdmgalhboijcaa.D
