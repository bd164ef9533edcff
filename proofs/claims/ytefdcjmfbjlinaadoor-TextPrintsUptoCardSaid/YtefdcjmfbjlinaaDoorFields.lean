/- text's fields: a map of the functions that set a task's fields. -/
import Derived.Test.YtefdcjmfbjlinaaDoorFmap
import Derived.Test.YtefdcjmfbjlinaaDoorFirst
import Derived.Test.YtefdcjmfbjlinaaDoorAny
namespace Go.Proofs.YtefdcjmfbjlinaaDoor.Sc
open Go.RowKit Go.Shelf Go.Maps

theorem setTo_any (a : Addr) (w : World) :
    Calls Tryd.prog 56 #[.pointer (some a)] w fun e w' => e = .returned (.func (.func 57) #[] #[.pointer (some ⟨w.heap.size, 0, none⟩)]) ∧ w' = w.alloc (.cells #[.pointer (some a)] 104) := by
  go_enter Tryd.func56, Tryd.ntmps56
  go_wp2
  go_ret
  exact ⟨rfl, rfl⟩
theorem setF_any (n : Int) (X T o : Nat) (v : Value) (w : World) (hx : w.cell? ⟨X, 0, none⟩ = some (.pointer (some ⟨T, o, none⟩))) (hc : w.cell? ⟨T, o, none⟩ = some v) (hf : w.frozen? ⟨T, o, none⟩ = false) :
    Calls Tryd.prog 57 #[.int .i64 n, .pointer (some ⟨X, 0, none⟩)] w fun e w' => e = .returned (.tuple #[]) ∧ w' = w.setCell ⟨T, o, none⟩ (.int .i64 n) := by
  go_enter Tryd.func57, Tryd.ntmps57
  go_wp2
  go_end0
  exact ⟨rfl, rfl⟩
theorem setP_any (n : Int) (X T : Nat) (v : Value) (w : World) (hx : w.cell? ⟨X, 0, none⟩ = some (.pointer (some ⟨T, 0, none⟩))) (hc : w.cell? ⟨T, 6, none⟩ = some v) (hf : w.frozen? ⟨T, 6, none⟩ = false) :
    Calls Tryd.prog 58 #[.int .i64 n, .pointer (some ⟨X, 0, none⟩)] w fun e w' => e = .returned (.tuple #[]) ∧ w' = w.setCell ⟨T, 6, none⟩ (.int .i64 n) := by
  go_enter Tryd.func58, Tryd.ntmps58
  go_wp2
  go_end0
  exact ⟨rfl, rfl⟩

/-- What fields has made: the map, and the blocks of its functions. -/
structure Flds (w : World) (T M : Nat) (B : Nat → Nat) (rem : Nat → Bool) : Prop where
  map : IsMapF w M 100 (mapF B rem)
  box : ∀ i, i < 5 → w.heap[B i]? = some (.cells #[.pointer (some ⟨T, i + 1, none⟩)] 104 (0, 0))
  boxp : w.heap[B 5]? = some (.cells #[.pointer (some ⟨T, 0, none⟩)] 86 (0, 0))

theorem Flds.keeps {w w' : World} {T M : Nat} {B : Nat → Nat} {rem : Nat → Bool} {F : List Nat} (h : Flds w T M B rem) (k : Keeps F w w') (hM : M ∉ F := by simp) (hB : ∀ i, i < 6 → B i ∉ F := by simp) : Flds w' T M B rem :=
  ⟨h.map.keeps k hM, fun i hi => k.blk (h.box i hi) (hB i (by omega)), k.blk h.boxp (hB 5 (by omega))⟩
/-- Where operation i writes. -/
def fdst (i : Nat) : Nat := if i = 0 then 4 else if i = 31 then 30 else if i = 33 then 31 else if i = 34 then 2 else (i - 1) / 6 * 5 + (i - 1) % 6 + 5
/-- What stands there behind it. -/
def fval (T M : Nat) (B : Nat → Nat) (i : Nat) : Value :=
  if i = 0 ∨ i = 33 ∨ i = 34 then .map (some M) else if i = 31 then fldV B 5
  else if (i - 1) % 6 = 0 then .func (.func 56) #[] #[]
  else if (i - 1) % 6 = 1 ∨ (i - 1) % 6 = 2 then .pointer (some ⟨T, 0, none⟩)
  else if (i - 1) % 6 = 3 then .pointer (some ⟨T, (i - 1) / 6 + 1, none⟩)
  else fldV B ((i - 1) / 6)
def fins (k : Nat) : Nat := if k = 5 then 32 else 6 * k + 6
/-- Operations that write a slot. -/
def isS (i : Nat) : Bool := decide (i < 35) && !(i == 32) && !(i == 6 || i == 12 || i == 18 || i == 24 || i == 30)
theorem isS_lt {i : Nat} (h : isS i = true) : i < 35 := by unfold isS at h; simp at h; omega
theorem fdst_inj : ∀ i, i < 35 → ∀ j, j < 35 → isS i = true → isS j = true → fdst i = fdst j → i = j := by decide
theorem fdst_lt : ∀ i, i < 35 → isS i = true → fdst i < 32 ∧ fdst i ≠ 1 ∧ fdst i ≠ 3 := by decide
def slot (a : Act) (j : Nat) : Value := a.tmps[j]?.getD undef
theorem slot_put {a : Act} {d : Nat} {v : Value} (hd : d < a.tmps.size) (j : Nat) : slot (a.put (some d) v) j = if d = j then v else slot a j := by
  unfold slot Act.put
  simp only [Array.getElem?_setIfInBounds]
  split
  · rename_i h; subst h; simp
  · rfl
theorem getD_set {l : Array Bool} {i : Nat} (hi : i < l.size) (j : Nat) : (l.setIfInBounds i true).getD j false = if i = j then true else l.getD j false := by
  rw [Array.getD_eq_getD_getElem?, Array.getD_eq_getD_getElem?, Array.getElem?_setIfInBounds]
  split
  · rename_i h; subst h; simp
  · rfl
structure FEx (T X0 : Nat) (w0 : World) (f : Nat) (l : Array Bool) (a : Act) (w : World) (M n : Nat) (B : Nat → Nat) : Prop where
  b5 : B 5 = X0
  nf : n + f ≤ 35
  sl : ∀ i, isS i = true → l.getD i false = true → slot a (fdst i) = fval T M B i
  bx : ∀ k, k < 5 → l.getD (6 * k + 5) false = true → w.heap[B k]? = some (.cells #[.pointer (some ⟨T, k + 1, none⟩)] 104 (0, 0)) ∧ w0.heap.size ≤ B k
  mp : l.getD 0 false = true → w0.heap.size ≤ M ∧ IsMapF w M n (mapF B (fun k => l.getD (fins k) false))
  c0 : ∀ i, (i = 33 ∨ i = 34 ∨ ∃ k, k < 6 ∧ i = fins k) → l.getD i false = true → l.getD 0 false = true
  c1 : ∀ k, k < 5 → l.getD (fins k) false = true → l.getD (6 * k + 5) false = true
structure FInv (T X0 : Nat) (w0 : World) (f : Nat) (l : Array Bool) (a : Act) (w : World) : Prop where
  sz : l.size = 35
  tsz : a.tmps.size = 32
  def_ : a.defers = []
  s1 : slot a 1 = .pointer (some ⟨X0, 0, none⟩)
  s3 : slot a 3 = .func (.func 56) #[] #[]
  x0 : w.heap[X0]? = some (.cells #[.pointer (some ⟨T, 0, none⟩)] 86 (0, 0))
  kp : Keeps [] w0 w
  ex : ∃ (M n : Nat) (B : Nat → Nat), FEx T X0 w0 f l a w M n B
theorem mapF_congr {B B' : Nat → Nat} {r r' : Nat → Bool} (h : ∀ k, k < 6 → r' k = r k ∧ (r k = true → B' k = B k ∧ B' 5 = B 5)) (x : Lit) : mapF B' r' x = mapF B r x := by
  unfold mapF
  cases x with
  | string l =>
    simp only
    cases hf : fldI l with
    | none => rfl
    | some i =>
      have hi : i < 6 := by
        unfold fldI at hf
        repeat' split at hf
        all_goals first | (cases hf; omega) | cases hf
      obtain ⟨h1, h2⟩ := h i hi
      simp only [h1]
      by_cases hr : r i = true
      · obtain ⟨h3, h4⟩ := h2 hr
        simp [hr, fldV, h3, h4]
      · simp [hr]
  | _ => rfl
theorem finv_next {T X0 : Nat} {w0 : World} {f : Nat} {l : Array Bool} {a : Act} {w w' : World} {M n M' : Nat} {B B' : Nat → Nat} {i : Nat} {v : Value} (h : FInv T X0 w0 (f + 1) l a w) (e : FEx T X0 w0 (f + 1) l a w M n B)
    (hi : isS i = true) (hk : Keeps [] w w') (h5 : B' 5 = X0) (hv : v = fval T M' B' i) (hother : ∀ j, isS j = true → j ≠ i → l.getD j false = true → fval T M' B' j = fval T M B j)
    (hbx : ∀ k, k < 5 → (l.getD (6 * k + 5) false = true ∧ B' k = B k) ∨ (i = 6 * k + 5 ∧ w'.heap[B' k]? = some (.cells #[.pointer (some ⟨T, k + 1, none⟩)] 104 (0, 0)) ∧ w0.heap.size ≤ B' k) ∨ (l.getD (6 * k + 5) false = false ∧ i ≠ 6 * k + 5))
    (hmp : (l.getD 0 false = true ∧ M' = M) ∨ (i = 0 ∧ l.getD 0 false = false ∧ w0.heap.size ≤ M' ∧ IsMapF w' M' 0 (fun _ => .nilFunc)) ∨ (l.getD 0 false = false ∧ i ≠ 0)) (hc0 : i = 33 ∨ i = 34 → l.getD 0 false = true)
    (hb : ∀ k, k < 5 → l.getD (fins k) false = true → B' k = B k) :
    FInv T X0 w0 f (l.setIfInBounds i true) (a.put (some (fdst i)) v) w' := by
  have hi35 := isS_lt hi
  obtain ⟨hd1, hd2, hd3⟩ := fdst_lt i hi35 hi
  have hil : i < l.size := by rw [h.sz]; exact hi35
  have hsp : ∀ j, slot (a.put (some (fdst i)) v) j = if fdst i = j then v else slot a j := slot_put (by rw [h.tsz]; exact hd1)
  have hgs := getD_set hil
  have hfi : ∀ k, k < 6 → i ≠ fins k := by
    intro k hk6 he
    subst he
    unfold isS fins at hi
    have : k = 0 ∨ k = 1 ∨ k = 2 ∨ k = 3 ∨ k = 4 ∨ k = 5 := by omega
    rcases this with rfl | rfl | rfl | rfl | rfl | rfl <;> simp at hi
  have hnf := e.nf
  refine ⟨by simpa using h.sz, by simpa [Act.put] using h.tsz, by simpa [Act.put] using h.def_, by rw [hsp, if_neg hd2]; exact h.s1, by rw [hsp, if_neg hd3]; exact h.s3, hk.blk h.x0 (by simp), h.kp.trans hk, M', n, B', h5, by omega, ?_, ?_, ?_, ?_, ?_⟩
  · intro j hj hlj
    rw [hgs] at hlj
    by_cases hij : i = j
    · subst hij
      rw [hsp, if_pos rfl]
      exact hv
    · rw [if_neg hij] at hlj
      rw [hsp, if_neg (fun hd => hij (fdst_inj i hi35 j (isS_lt hj) hi hj hd)), e.sl j hj hlj, hother j hj (Ne.symm hij) hlj]
  · intro k hk5 hlk
    rw [hgs] at hlk
    rcases hbx k hk5 with ⟨h1, h2⟩ | ⟨h1, h2, h3⟩ | ⟨h1, h2⟩
    · have := e.bx k hk5 h1
      rw [h2]
      exact ⟨hk.blk this.1 (by simp), this.2⟩
    · exact ⟨h2, h3⟩
    · rw [if_neg h2, h1] at hlk
      cases hlk
  · intro hl0
    rw [hgs] at hl0
    have hrem : ∀ k, k < 6 → (l.setIfInBounds i true).getD (fins k) false = l.getD (fins k) false := fun k hk6 => by rw [hgs, if_neg (hfi k hk6)]
    rcases hmp with ⟨h1, rfl⟩ | ⟨h1, h2, h3, h4⟩ | ⟨h1, h2⟩
    · obtain ⟨h5', h6⟩ := e.mp h1
      refine ⟨h5', (h6.keeps hk (by simp)).congr (fun x _ => ?_)⟩
      symm
      refine mapF_congr (fun k hk6 => ⟨hrem k hk6, fun hr => ⟨?_, by rw [h5, e.b5]⟩⟩) x
      by_cases hk5 : k = 5
      · subst hk5; rw [h5, e.b5]
      · exact hb k (by omega) hr
    · refine ⟨h3, ?_⟩
      have : IsMapF w' M' n (fun _ => .nilFunc) := by
        obtain ⟨D, q1, q2, q3⟩ := h4
        exact ⟨D, q1.mono (Nat.zero_le _), q2, q3⟩
      refine this.congr (fun x _ => ?_)
      unfold mapF
      cases x with
      | string s =>
        simp only
        cases hf : fldI s with
        | none => rfl
        | some q =>
          have hq : q < 6 := by
            unfold fldI at hf
            repeat' split at hf
            all_goals first | (cases hf; omega) | cases hf
          have hz : l.getD (fins q) false = false := by
            cases hz : l.getD (fins q) false with
            | false => rfl
            | true => have := e.c0 (fins q) (.inr (.inr ⟨q, hq, rfl⟩)) hz; rw [h2] at this; cases this
          simp only [hrem q hq, hz]
          rfl
      | _ => rfl
    · rw [if_neg h2, h1] at hl0
      cases hl0
  · intro j hj hlj
    rw [hgs] at hlj ⊢
    by_cases h0 : i = 0
    · rw [if_pos h0]
    · rw [if_neg h0]
      by_cases hij : i = j
      · subst hij
        rcases hj with rfl | rfl | ⟨k, hk6, rfl⟩
        · exact hc0 (.inl rfl)
        · exact hc0 (.inr rfl)
        · exact absurd rfl (hfi k hk6)
      · rw [if_neg hij] at hlj
        exact e.c0 j hj hlj
  · intro k hk5 hlk
    rw [hgs] at hlk ⊢
    rw [if_neg (hfi k (by omega))] at hlk
    split
    · rfl
    · exact e.c1 k hk5 hlk
theorem finv_same {T X0 : Nat} {w0 : World} {f : Nat} {l : Array Bool} {a : Act} {w : World} {M n : Nat} {B : Nat → Nat} {i : Nat} {v : Value} (h : FInv T X0 w0 (f + 1) l a w) (e : FEx T X0 w0 (f + 1) l a w M n B)
    (hi : isS i = true) (h0 : i ≠ 0) (hcall : ∀ k, k < 5 → i ≠ 6 * k + 5) (hv : v = fval T M B i) (hc0 : i = 33 ∨ i = 34 → l.getD 0 false = true) :
    FInv T X0 w0 f (l.setIfInBounds i true) (a.put (some (fdst i)) v) w :=
  finv_next h e hi (Keeps.refl _ _) e.b5 hv (fun _ _ _ _ => rfl)
    (fun k hk => by
      cases hl : l.getD (6 * k + 5) false with
      | true => exact .inl ⟨rfl, rfl⟩
      | false => exact .inr (.inr ⟨rfl, hcall k hk⟩))
    (by
      cases hl : l.getD 0 false with
      | true => exact .inl ⟨rfl, rfl⟩
      | false => exact .inr (.inr ⟨rfl, h0⟩)) hc0 (fun _ _ _ => rfl)
theorem finv_call {T X0 : Nat} {w0 : World} {f : Nat} {l : Array Bool} {a : Act} {w : World} {M n : Nat} {B : Nat → Nat} (h : FInv T X0 w0 (f + 1) l a w) (e : FEx T X0 w0 (f + 1) l a w M n B)
    (k : Nat) (hk : k < 5) (hl : l.getD (6 * k + 5) false = false) :
    FInv T X0 w0 f (l.setIfInBounds (6 * k + 5) true) (a.put (some (fdst (6 * k + 5))) (.func (.func 57) #[] #[.pointer (some ⟨w.heap.size, 0, none⟩)])) (w.alloc (.cells #[.pointer (some ⟨T, k + 1, none⟩)] 104)) := by
  refine finv_next (M' := M) (B' := fun t => if t = k then w.heap.size else B t) h e ?_ ((Keeps.refl _ _).alloc _) (by simp [show (5 : Nat) ≠ k by omega, e.b5]) ?_ ?_ ?_ ?_ (by omega) ?_
  · have : k = 0 ∨ k = 1 ∨ k = 2 ∨ k = 3 ∨ k = 4 := by omega
    rcases this with rfl | rfl | rfl | rfl | rfl <;> rfl
  · have : k = 0 ∨ k = 1 ∨ k = 2 ∨ k = 3 ∨ k = 4 := by omega
    rcases this with rfl | rfl | rfl | rfl | rfl <;> rfl
  · intro j hj hne hlj
    have hj35 := isS_lt hj
    unfold fval
    split
    · rfl
    · split
      · unfold fldV; simp [show (5 : Nat) ≠ k by omega]
      · split
        · rfl
        · split
          · rfl
          · split
            · rfl
            · unfold fldV
              split
              · simp [show (5 : Nat) ≠ k by omega]
              · have hj2 := hj
                unfold isS at hj2
                simp at hj2
                have hne2 : (j - 1) / 6 ≠ k := by omega
                simp [hne2]
  · intro k' hk'
    by_cases hkk : k' = k
    · subst hkk
      refine .inr (.inl ⟨rfl, ?_, ?_⟩)
      · simp only [if_true]
        exact blk_new w _
      · simp only [if_true]
        exact h.kp.size
    · cases hl' : l.getD (6 * k' + 5) false with
      | true => exact .inl ⟨rfl, if_neg hkk⟩
      | false => exact .inr (.inr ⟨rfl, by omega⟩)
  · cases hl0 : l.getD 0 false with
    | true => exact .inl ⟨rfl, rfl⟩
    | false => exact .inr (.inr ⟨rfl, by omega⟩)
  · intro k' hk' hr
    have := e.c1 k' hk' hr
    rw [if_neg (by intro he; subst he; rw [hl] at this; cases this)]
theorem finv_made {T X0 : Nat} {w0 : World} {f : Nat} {l : Array Bool} {a : Act} {w : World} {M n : Nat} {B : Nat → Nat} (h : FInv T X0 w0 (f + 1) l a w) (e : FEx T X0 w0 (f + 1) l a w M n B) (hl : l.getD 0 false = false) :
    FInv T X0 w0 f (l.setIfInBounds 0 true) (a.put (some (fdst 0)) (.map (some w.heap.size))) (w.alloc (.map #[] 0)) := by
  refine finv_next (M' := w.heap.size) (B' := B) h e rfl ((Keeps.refl _ _).alloc _) e.b5 rfl ?_ ?_ (.inr (.inl ⟨rfl, hl, h.kp.size, IsMapF.made w⟩)) (by omega) (fun _ _ _ => rfl)
  · intro j hj hne hlj
    unfold fval
    have h33 : ¬ (j = 33 ∨ j = 34) := fun hh => by
      have := e.c0 j (by rcases hh with h | h; (· exact .inl h); (· exact .inr (.inl h))) hlj
      rw [hl] at this; cases this
    have h3 : ¬ (j = 0 ∨ j = 33 ∨ j = 34) := by omega
    simp only [h3, if_false]
  · intro k hk
    cases hl : l.getD (6 * k + 5) false with
    | true => exact .inl ⟨rfl, rfl⟩
    | false => exact .inr (.inr ⟨rfl, by omega⟩)
def keyB (k : Nat) : ByteArray := if k = 0 then ⟨#[99]⟩ else if k = 1 then ⟨#[116]⟩ else if k = 2 then ⟨#[100]⟩ else if k = 3 then ⟨#[106]⟩ else if k = 4 then ⟨#[113]⟩ else ⟨#[112]⟩
theorem fldI_key {k : Nat} (hk : k < 6) : fldI (keyB k).data.toList = some k := by
  have : k = 0 ∨ k = 1 ∨ k = 2 ∨ k = 3 ∨ k = 4 ∨ k = 5 := by omega
  rcases this with rfl | rfl | rfl | rfl | rfl | rfl <;> rfl
theorem key_fldI {k : Nat} {l : List UInt8} (h : fldI l = some k) : l = (keyB k).data.toList ∧ k < 6 := by
  unfold fldI at h
  repeat' split at h
  all_goals first | (cases h; rename_i e; exact ⟨e, by omega⟩) | cases h
theorem keyOf_key {k : Nat} (hk : k < 6) : keyOf Tryd.prog 9 (.string (keyB k)) = some (.string (keyB k).data.toList) := by
  refine WideMaps.keyOf_string_mk Tryd.underlying9 ?_
  have : k = 0 ∨ k = 1 ∨ k = 2 ∨ k = 3 ∨ k = 4 ∨ k = 5 := by omega
  rcases this with rfl | rfl | rfl | rfl | rfl | rfl <;> decide
theorem mapF_put {B : Nat → Nat} {r : Nat → Bool} {k : Nat} (hk : k < 6) (b : Bool) : mapF B (fun j => if j = k then b else r j) (.string (keyB k).data.toList) = (if b then fldV B k else .nilFunc) ∧ ∀ x, x ≠ .string (keyB k).data.toList → mapF B (fun j => if j = k then b else r j) x = mapF B r x := by
  refine ⟨?_, fun x hx => ?_⟩
  · unfold mapF
    simp only [fldI_key hk, if_true]
  · unfold mapF
    cases x with
    | string l =>
      simp only
      cases hf : fldI l with
      | none => rfl
      | some i =>
        have : i ≠ k := fun he => by subst he; exact hx (by rw [(key_fldI hf).1])
        simp only [if_neg this]
    | _ => rfl
theorem finv_ins {T X0 : Nat} {w0 : World} {f : Nat} {l : Array Bool} {a : Act} {w : World} {M n : Nat} {B : Nat → Nat} (h : FInv T X0 w0 (f + 1) l a w) (e : FEx T X0 w0 (f + 1) l a w M n B) (k : Nat) (hk : k < 6) (hl0 : l.getD 0 false = true) (hlk : k < 5 → l.getD (6 * k + 5) false = true) :
    ∃ w', (Instr.mapUpdate 84 (.map (some M)) (.string (keyB k)) (fldV B k)).run Tryd.prog w = .ok () w' ∧ FInv T X0 w0 f (l.setIfInBounds (fins k) true) a w' := by
  obtain ⟨hM, hmap⟩ := e.mp hl0
  have hnf := e.nf
  have hp := mapF_put (B := B) (r := fun j => l.getD (fins j) false) hk true
  obtain ⟨w', hr, hm', hk'⟩ := putF (f' := mapF B (fun j => if j = k then true else l.getD (fins j) false)) hmap (by unfold maxLen; omega) (keyOf_key hk) trivial (v := fldV B k) (by rw [hp.1]; rfl) (fun x _ hx => hp.2 x hx)
  refine ⟨w', hr, ?_⟩
  have hmo : ∃ es clock, w.heap[M]? = some (.map es clock) := by
    obtain ⟨D, ⟨es, clock, h1, _⟩, _⟩ := hmap
    exact ⟨es, clock, h1⟩
  obtain ⟨es, clock, hmo⟩ := hmo
  have hfk : fins k < 35 := by unfold fins; split <;> omega
  have hgs := getD_set (l := l) (i := fins k) (by rw [h.sz]; exact hfk)
  have hinj : ∀ j, j < 6 → fins k = fins j → j = k := by
    intro j hj he
    unfold fins at he
    split at he <;> split at he <;> omega
  have hne5 : ∀ j, j < 5 → fins k ≠ 6 * j + 5 := by
    intro j hj he
    unfold fins at he
    split at he <;> omega
  have hnot : ∀ j, isS j = true → fins k ≠ j := by
    intro j hj he
    subst he
    unfold isS fins at hj
    have : k = 0 ∨ k = 1 ∨ k = 2 ∨ k = 3 ∨ k = 4 ∨ k = 5 := by omega
    rcases this with rfl | rfl | rfl | rfl | rfl | rfl <;> simp at hj
  refine ⟨by simpa using h.sz, h.tsz, h.def_, h.s1, h.s3, hk'.blk h.x0 (by simp; intro he; subst he; rw [h.x0] at hmo; cases hmo), h.kp.andThen hk' (by intro g hg; simp at hg; subst hg; exact .inr hM), M, n + 1, B, e.b5, by omega, ?_, ?_, ?_, ?_, ?_⟩
  · intro j hj hlj
    rw [hgs, if_neg (hnot j hj)] at hlj
    exact e.sl j hj hlj
  · intro j hj hlj
    rw [hgs, if_neg (hne5 j hj)] at hlj
    obtain ⟨h1, h2⟩ := e.bx j hj hlj
    exact ⟨hk'.blk h1 (by simp; intro he; rw [he, hmo] at h1; cases h1), h2⟩
  · intro _
    refine ⟨hM, hm'.congr (fun x _ => ?_)⟩
    refine mapF_congr (fun j hj => ⟨?_, fun _ => ⟨rfl, rfl⟩⟩) x
    rw [hgs]
    by_cases hjk : j = k
    · subst hjk; simp
    · rw [if_neg (fun he => hjk (hinj j hj he)), if_neg hjk]
  · intro j hj hlj
    rw [hgs] at hlj ⊢
    rw [if_neg (by unfold fins; split <;> omega)]
    exact hl0
  · intro j hj hlj
    rw [hgs] at hlj ⊢
    rw [if_neg (hne5 j hj)]
    by_cases hjk : fins k = fins j
    · have := hinj j (by omega) hjk
      subst this
      exact hlk hj
    · rw [if_neg hjk] at hlj
      exact e.c1 j hj hlj
end Go.Proofs.YtefdcjmfbjlinaaDoor.Sc
