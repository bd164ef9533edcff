/- text.Parse; what is read is within bounds. -/
import Derived.Test.YtefdcjmfbjlinaaDoorRead
namespace Go.Proofs.YtefdcjmfbjlinaaDoor.Sc
open Go.RowKit Go.Shelf Go.Maps

def M40 : Int := 1099511627776
/-- A task of small numbers. -/
structure Small (n : Nat) (x : Tsk) : Prop where
  nm : x.nm.size ≤ n
  c : 0 ≤ x.c ∧ x.c ≤ M40
  t : 0 ≤ x.t ∧ x.t ≤ M40
  d : 0 ≤ x.d ∧ x.d ≤ M40
  j : 0 ≤ x.j ∧ x.j ≤ M40
  q : 0 ≤ x.q ∧ x.q ≤ M40
  p : 0 ≤ x.p ∧ x.p ≤ M40
structure Small1 (n : Nat) (x : Tsk) : Prop where
  nm : x.nm.size ≤ n
  c : 0 ≤ x.c ∧ x.c ≤ M40
  t : 0 ≤ x.t ∧ x.t ≤ M40
  d : -1 ≤ x.d ∧ x.d ≤ M40
  j : 0 ≤ x.j ∧ x.j ≤ M40
  q : 0 ≤ x.q ∧ x.q ≤ M40
  p : 0 ≤ x.p ∧ x.p ≤ M40
theorem small_set {n : Nat} {x : Tsk} (h : Small1 n x) (i : Nat) {v : Int} (h0 : 0 ≤ v) (h1 : v ≤ M40) : Small1 n (setF i v x) := by
  obtain ⟨a, b, c, d, e, f, g⟩ := h
  unfold setF
  repeat' split
  all_goals exact ⟨a, by first | exact ⟨h0, h1⟩ | exact b, by first | exact ⟨h0, h1⟩ | exact c, by first | exact ⟨by simp only; omega, h1⟩ | exact d, by first | exact ⟨h0, h1⟩ | exact e, by first | exact ⟨h0, h1⟩ | exact f, by first | exact ⟨h0, h1⟩ | exact g⟩
theorem small_fin {n : Nat} {x y : Tsk} {rem : Nat → Bool} (h : Small1 n x) (hf : finF x rem = some y) : Small n y := by
  obtain ⟨a, b, c, d, e, f, g⟩ := h
  unfold finF at hf
  split at hf
  · cases hf
  · injection hf with hf
    split at hf
    · subst hf; exact ⟨a, b, c, c, e, f, g⟩
    · subst hf; exact ⟨a, b, c, ⟨by omega, d.2⟩, e, f, g⟩
def TokB (n : Nat) (l : List Tk) : Prop := ∀ t ∈ l, t.text.length ≤ n ∧ (t.num : Int) ≤ M40
theorem fields_small {n : Nat} (m : Nat) : ∀ (l : List Tk) (x y : Tsk) (rem : Nat → Bool) (r : List Tk), l.length ≤ m → TokB n l → Small1 n x → fieldsL l x rem = (some y, r) → Small n y := by
  induction m with
  | zero =>
    intro l x y rem r hl _ hx h
    have : l = [] := List.eq_nil_of_length_eq_zero (by omega)
    subst this
    rw [fieldsL, Prod.mk.injEq] at h
    exact small_fin hx h.1
  | succ m ih =>
    intro l x y rem r hm hb hx h
    cases l with
    | nil =>
      rw [fieldsL, Prod.mk.injEq] at h
      exact small_fin hx h.1
    | cons t l =>
      unfold fieldsL at h
      split at h
      · rw [Prod.mk.injEq] at h
        exact small_fin hx h.1
      · split at h
        · cases h
        · split at h
          · cases h
          · rename_i i hfi hr
            split at h
            · cases h
            · split at h <;> cases h
            · rename_i t1 t2 l'
              split at h
              · split at h
                · have h2 := hb t2 (by simp)
                  have hx2 : Small1 n (setF i (t2.num : Int) x) := small_set hx i (Int.natCast_nonneg _) h2.2
                  exact ih l' _ y _ r (by simp at hm; omega) (fun u hu => hb u (by simp [hu])) hx2 h
                · cases h
              · cases h
theorem task_small {n : Nat} {l : List Tk} {y : Tsk} {r : List Tk} (hb : TokB n l) (h : taskL l = (some y, r)) : Small n y := by
  match l, hb, h with
  | [], _, h => simp [taskL] at h
  | [t], _, h =>
    simp only [taskL] at h
    split at h <;> cases h
  | t :: u :: l', hb, h =>
    simp only [taskL] at h
    split at h
    · split at h
      · refine fields_small l'.length l' _ y _ r (Nat.le_refl _) (fun v hv => hb v (by simp [hv])) ?_ h
        have := (hb u (by simp)).1
        exact ⟨by simpa [ByteArray.size] using this, by simp [M40], by simp [M40], by simp [M40], by simp [M40], by simp [M40], by simp [M40]⟩
      · cases h
    · cases h
theorem fieldsL_sub : ∀ (n : Nat) (l : List Tk) (x : Tsk) (rem : Nat → Bool), l.length ≤ n → ∀ t ∈ (fieldsL l x rem).2, t ∈ l
  | 0, [], _, _, _ => by simp [fieldsL]
  | n + 1, [], _, _, _ => by simp [fieldsL]
  | n + 1, t :: l, x, rem, hn => by
    unfold fieldsL
    split
    · exact fun u h => h
    · split
      · exact fun u h => h
      · split
        · exact fun u h => h
        · split
          · simp
          · split <;> simp
          · rename_i t1 t2 l'
            split
            · split
              · exact fun u h => by
                  have := fieldsL_sub n l' _ _ (by simp at hn; omega) u h
                  simp [this]
              · exact fun u h => by simp at h ⊢; rcases h with h | h <;> simp [h]
            · exact fun u h => by simp at h ⊢; rcases h with h | h | h <;> simp [h]
theorem taskL_sub (l : List Tk) : ∀ t ∈ (taskL l).2, t ∈ l := by
  match l with
  | [] => simp [taskL]
  | [t] => simp only [taskL]; split <;> simp
  | t :: u :: l' =>
    simp only [taskL]
    split
    · split
      · exact fun v h => by
          have := fieldsL_sub l'.length l' _ _ (Nat.le_refl _) v h
          simp [this]
      · exact fun v h => by simp at h ⊢; rcases h with h | h <;> simp [h]
    · exact fun v h => h
theorem rd_small {n e : Nat} : ∀ (m : Nat) (l : List Tk), l.length ≤ m → TokB n l → ∀ x ∈ (rd e l).1, Small n x
  | 0, [], _, _ => by simp [rd_nil]
  | m + 1, [], _, _ => by simp [rd_nil]
  | m + 1, t :: l, hm, hb => by
    simp at hm
    by_cases hk : t.kind = 4
    · rw [rd_line e hk]; exact rd_small m l hm (fun u hu => hb u (by simp [hu]))
    · cases ht : taskL (t :: l) with
      | mk o r =>
        cases o with
        | none => rw [rd_none e hk ht]; simp
        | some x =>
          rw [rd_some e hk ht]
          have hl := taskL_some ht
          have hsub := taskL_sub (t :: l)
          rw [ht] at hsub
          split
          · intro y hy
            rcases List.mem_cons.1 hy with rfl | hy
            · exact task_small hb ht
            · exact rd_small m r (by omega) (fun u hu => hb u (hsub u hu)) y hy
          · simp
theorem tok_num {L : List UInt8} {t : Tk} (h : t ∈ (eachL L).1) : (t.num : Int) ≤ M40 := by
  have key : ∀ (n at_ : Nat) (l : List UInt8), l.length ≤ n → ∀ t ∈ (rst at_ l).1, t.num ≤ 1099511627776 := by
    intro n
    induction n with
    | zero =>
      intro at_ l hl t ht
      have : l = [] := List.eq_nil_of_length_eq_zero (by omega)
      subst this
      simp [rst_nil] at ht
    | succ n ih =>
      intro at_ l hl t ht
      cases l with
      | nil => simp [rst_nil] at ht
      | cons c l =>
        by_cases hk : knd c = 0
        · rw [rst_none _ hk] at ht; simp at ht
        · rw [rst_some _ hk] at ht
          rcases List.mem_cons.1 ht with rfl | ht
          · simp only [tkOf]
            split
            · exact nm_le _
            · omega
          · have := nxt_pos c l
            exact ih _ _ (by simp at hl ⊢; omega) t ht
  rw [eachL_eq] at h
  have := key _ _ _ (Nat.le_refl _) t h
  unfold M40
  omega
theorem lex_tokB (L : List UInt8) : TokB L.length (lexL L).1 := by
  intro t ht
  refine ⟨by have := (lexL_toks L).2 t ht; omega, ?_⟩
  unfold lexL at ht
  split at ht
  · simp at ht
  · exact tok_num ht
theorem readT_small (L : List UInt8) : ∀ x ∈ (readT L).1, Small L.length x := by
  unfold readT
  split
  · exact rd_small _ _ (Nat.le_refl _) (lex_tokB L)
  · simp

/-- text.Parse. -/
def parseT (l : List UInt8) : List Tsk × Int × Int :=
  if (readT l).2.2 ≠ 0 then ([], (readT l).2.1, (readT l).2.2) else
  if (checkAllL (readT l).1).2 ≠ 0 then ([], (checkAllL (readT l).1).1, (checkAllL (readT l).1).2) else ((readT l).1, (checkAllL (readT l).1).1, 0)
def ParsePost (res : List Tsk × Int × Int) (w : World) (r : Ending) (w' : World) : Prop :=
  ∃ v, r = .returned (.tuple #[v, .int .i64 res.2.1, .int .i64 res.2.2]) ∧ RowS w' w.heap.size v res.1 ∧ Keeps [] w w'
theorem small_wf {n : Nat} {x : Tsk} (h : Small n x) : (Lit.int .i64 x.p).wf = true := by
  have := h.p
  unfold M40 at this
  exact WalkArith.wf_i64 (by omega)
set_option maxHeartbeats 4000000 in
set_option maxRecDepth 100000 in
theorem parse_any (s : ByteArray) (hs : s.size ≤ 100000) (w : World) : Calls Tryd.prog 19 #[.string s] w (ParsePost (parseT s.data.toList) w) := by
  have hsm := readT_small s.data.toList
  have hsl : s.data.toList.length = s.size := by simp
  rw [hsl] at hsm
  have HSM := Lib.hid hsm
  clear hsm hsl
  go_enter Tryd.func19, Tryd.ntmps19
  go_wp2_with fail
  refine (read_any s hs _).mono ?_
  rintro r w1 ⟨v, rfl, hrow, K1⟩
  cases hr : readT s.data.toList with
  | mk xs rest =>
  obtain ⟨at_, er⟩ := rest
  rw [hr] at hrow
  have HR := Lib.hid hr
  clear hr
  simp only
  by_cases he : er = 0
  · subst he
    obtain ⟨A, cap, rfl, hcap, hAb, hTs⟩ := row_tsk hrow
    have HROW := Lib.hid hrow
    have HTS := Lib.hid hTs
    clear hrow hTs hAb
    go_wp2_with fail
    refine (checkAll_any A cap xs _ (fun x hx => by have := (HSM.out x (by rw [HR.out]; exact hx)).nm; omega) (fun x hx => small_wf (HSM.out x (by rw [HR.out]; exact hx))) HTS.out).mono ?_
    rintro r w2 ⟨rfl, K2⟩
    have HROW2 := Lib.hid (HROW.out.keeps K2 (by simp))
    cases hc : checkAllL xs with
    | mk c1 c2 =>
    have HCC := Lib.hid hc
    clear hc
    simp only
    by_cases hz : c2 = 0
    · subst hz
      have hres : parseT s.data.toList = (xs, c1, 0) := by
        unfold parseT
        rw [HR.out]
        simp [HCC.out]
      have HRES := Lib.hid hres
      clear hres
      go_wp2
      refine bodyPost_ret (v := .tuple #[.slice A xs.length cap, .int .i64 c1, .int .i64 0]) (by simp [results, Tryd.results19, go_sem]) rfl ?_
      rw [HRES.out]
      exact ⟨_, rfl, HROW2.out, K1.trans K2⟩
    · have hne : (c2 != 0) = true := by simpa using hz
      have hres : parseT s.data.toList = ([], c1, c2) := by
        unfold parseT
        rw [HR.out]
        simp [HCC.out, hz]
      have HRES := Lib.hid hres
      clear hz hres
      go_wp2
      refine bodyPost_ret (v := .tuple #[.slice none 0 0, .int .i64 c1, .int .i64 c2]) (by simp [results, Tryd.results19, go_sem]) rfl ?_
      rw [HRES.out]
      exact ⟨_, rfl, World.ownsRow_nil _ _ _ _, K1.trans K2⟩
  · have hne : ((er : Int) != 0) = true := by simp; omega
    have hres : parseT s.data.toList = ([], (at_ : Int), (er : Int)) := by
      unfold parseT
      rw [HR.out]
      simp [he]
    have HRES := Lib.hid hres
    clear he hrow hres
    go_wp2
    refine bodyPost_ret (v := .tuple #[.slice none 0 0, .int .i64 at_, .int .i64 er]) (by simp [results, Tryd.results19, go_sem]) rfl ?_
    rw [HRES.out]
    exact ⟨_, rfl, World.ownsRow_nil _ _ _ _, K1⟩
end Go.Proofs.YtefdcjmfbjlinaaDoor.Sc
