/- A region whose order is open, by an invariant that is handed from step to step. -/
import Derived.BigRegion
import Derived.Test.YtefdcjmfbjlinaaDoorBase
namespace Go.Proofs.YtefdcjmfbjlinaaDoor.Sc
open Go.RowKit

section
variable {P : Program} {ops : Array Oper} {Q : Exit → Act → World → Prop} {md : Region.Mode}
theorem getD_lt {l : Array Bool} {i : Nat} (h : i < l.size) (d d' : Bool) : l.getD i d = l.getD i d' := by simp [h]
theorem all_of_count {l : Array Bool} (h : l.toList.countP (fun b => !b) = 0) (i : Nat) (hi : i < l.size) : l.getD i false = true := by
  rw [List.countP_eq_zero] at h
  have := h l[i] (by simp)
  simpa [hi] using this
theorem count_set {l : Array Bool} {i : Nat} (hi : i < l.size) (h : l.getD i true = false) : (l.setIfInBounds i true).toList.countP (fun b => !b) + 1 = l.toList.countP (fun b => !b) := by
  have h2 : l[i] = false := by simpa [hi] using h
  rw [Array.toList_setIfInBounds, List.countP_set (by simpa using hi)]
  have hpos : 0 < l.toList.countP (fun b => !b) := List.countP_pos_iff.2 ⟨l[i], by simp, by simp [h2]⟩
  have h3 : l.toList[i]'(by simpa using hi) = false := by simpa using h2
  rw [h3]
  simp only [Bool.not_false, Bool.not_true, if_true, Bool.false_eq_true, if_false]
  omega
/-- Nothing may come up any more: all have. -/
theorem all_of_ready (hdeps : ∀ (i : Nat) (o : Oper), ops[i]? = some o → ∀ e ∈ o.after, e.on < i) {l : Array Bool} (hsz : l.size = ops.size) (hr : Region.ready md ops l = []) : ∀ (n i : Nat), i < n → i < ops.size → l.getD i false = true
  | 0, _, h, _ => absurd h (Nat.not_lt_zero _)
  | n + 1, i, hin, hi => by
    cases hv : l.getD i false with
    | true => rfl
    | false =>
      have hm : i ∈ Region.ready md ops l := mem_ready.2 ⟨by rw [getD_lt (by omega) true false]; exact hv, ops[i], by simp [hi], fun e he _ => all_of_ready hdeps hsz hr n e.on (by have := hdeps i ops[i] (by simp [hi]) e he; omega) (by have := hdeps i ops[i] (by simp [hi]) e he; omega)⟩
      rw [hr] at hm
      cases hm
theorem wpAny_inv (Inv : Nat → Array Bool → Act → World → Prop) (hsz : ∀ f l a w, Inv f l a w → l.size = ops.size) (hdeps : ∀ (i : Nat) (o : Oper), ops[i]? = some o → ∀ e ∈ o.after, e.on < i)
    (hstep : ∀ f l a w i o, Inv (f + 1) l a w → l.getD i false = false → ops[i]? = some o → (∀ e ∈ o.after, Region.binds md e = true → l.getD e.on false = true) → wpOp P ops Q i (Inv f (l.setIfInBounds i true)) a w)
    (hend : ∀ f l a w, Inv f l a w → (∀ i, i < ops.size → l.getD i false = true) → Q .normal a w) :
    ∀ f l a w, Inv f l a w → l.toList.countP (fun b => !b) ≤ f → wpAny P md ops Q f l a w
  | 0, l, a, w, h, hc => by
    have hall : ∀ i, i < ops.size → l.getD i false = true := fun i hi => all_of_count (by omega) i (by rw [hsz 0 l a w h]; exact hi)
    refine ⟨?_, hend 0 l a w h hall⟩
    cases hr : Region.ready md ops l with
    | nil => rfl
    | cons i is =>
      have hm : i ∈ Region.ready md ops l := by rw [hr]; simp
      obtain ⟨h1, o, ho, _⟩ := mem_ready.1 hm
      have hi : i < ops.size := (Array.getElem?_eq_some_iff.1 ho).1
      have := hall i hi
      rw [getD_lt (by rw [hsz 0 l a w h]; exact hi) true false] at h1
      rw [h1] at this
      cases this
  | f + 1, l, a, w, h, hc => by
    refine ⟨fun hr => hend _ l a w h (fun i hi => all_of_ready hdeps (hsz _ l a w h) hr (i + 1) i (Nat.lt_succ_self i) hi), fun i hm => ?_⟩
    obtain ⟨h1, o, ho, hd⟩ := mem_ready.1 hm
    have hi : i < ops.size := (Array.getElem?_eq_some_iff.1 ho).1
    have hl : i < l.size := by rw [hsz _ l a w h]; exact hi
    have hcs := count_set hl h1
    rw [getD_lt hl true false] at h1
    exact wpOp_mono (fun a' w' h' => wpAny_inv Inv hsz hdeps hstep hend f _ a' w' h' (by omega)) (hstep f l a w i o h h1 ho hd)
theorem deps_of (h : (List.range ops.size).all (fun i => ((ops[i]?).map fun o => o.after.all fun e => decide (e.on < i)).getD true) = true) : ∀ (i : Nat) (o : Oper), ops[i]? = some o → ∀ e ∈ o.after, e.on < i := by
  intro i o ho e he
  have hi : i < ops.size := (Array.getElem?_eq_some_iff.1 ho).1
  have := List.all_eq_true.1 h i (List.mem_range.2 hi)
  rw [ho] at this
  simp only [Option.map_some, Option.getD_some, Array.all_eq_true_iff_forall_mem] at this
  exact of_decide_eq_true (this e he)
theorem wpOp_value {i : Nat} {o : Oper} {K : Act → World → Prop} {a : Act} {w w' : World} {v : Value} (ho : ops[i]? = some o) (hg : o.guard = none) (hr : (execOp a.eval o).run P w = .ok (.value v) w') (hK : K (a.put o.dst v) w') : wpOp P ops Q i K a w := by
  unfold wpOp
  rw [ho]
  simp only [Region.wanted, hg, if_true]
  refine .inl ?_
  unfold Oper.wp
  rw [hr]
  exact hK
theorem wpOp_skip {i : Nat} {o : Oper} {K : Act → World → Prop} {a : Act} {w w' : World} (ho : ops[i]? = some o) (hg : o.guard = none) (hr : (execOp a.eval o).run P w = .ok .skip w') (hK : K (a.put o.dst undef) w') : wpOp P ops Q i K a w := by
  unfold wpOp
  rw [ho]
  simp only [Region.wanted, hg, if_true]
  refine .inl ?_
  unfold Oper.wp
  rw [hr]
  exact hK
theorem wpOp_enter {i : Nat} {o : Oper} {K : Act → World → Prop} {a : Act} {w w' : World} {f : FuncId} {args : Array Value} {v : Value} {R : World → Prop} (ho : ops[i]? = some o) (hg : o.guard = none) (hr : (execOp a.eval o).run P w = .ok (.enter f args) w')
    (hc : Calls P f args w' fun e w'' => e = .returned v ∧ R w'') (hK : ∀ w'', R w'' → K (a.put o.dst v) w'') : wpOp P ops Q i K a w := by
  unfold wpOp
  rw [ho]
  simp only [Region.wanted, hg, if_true]
  refine .inl ?_
  unfold Oper.wp
  rw [hr]
  refine Calls.mono hc ?_
  rintro e w'' ⟨rfl, h⟩
  exact hK _ h
end
end Go.Proofs.YtefdcjmfbjlinaaDoor.Sc
