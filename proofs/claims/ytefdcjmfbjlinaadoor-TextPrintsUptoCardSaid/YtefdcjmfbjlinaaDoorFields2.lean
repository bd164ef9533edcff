/- text's fields: its walk. -/
import Derived.Test.YtefdcjmfbjlinaaDoorFields
namespace Go.Proofs.YtefdcjmfbjlinaaDoor.Sc
open Go.RowKit Go.Shelf Go.Maps

def FieldsPost (T : Nat) (w : World) (e : Ending) (w' : World) : Prop := ∃ (M : Nat) (B : Nat → Nat), e = .returned (.map (some M)) ∧ Flds w' T M B (fun _ => true) ∧ Keeps [] w w' ∧ w.heap.size ≤ M ∧ (∀ i, i < 6 → w.heap.size ≤ B i)

set_option maxHeartbeats 4000000 in
set_option maxRecDepth 100000 in
theorem fields_any (T : Nat) (w : World) : Calls Tryd.prog 41 #[.pointer (some ⟨T, 0, none⟩)] w (FieldsPost T w) := by
  have hx0 := blk_new w (.cells #[.pointer (some ⟨T, 0, none⟩)] 86)
  have K0 : Keeps [] w (w.alloc (.cells #[.pointer (some ⟨T, 0, none⟩)] 86)) := (Keeps.refl _ _).alloc _
  obtain ⟨X0, hX0⟩ : ∃ X0, X0 = w.heap.size := ⟨_, rfl⟩
  rw [← hX0] at hx0
  have HX0 := Lib.hid hX0
  have HXB := Lib.hid hx0
  clear hx0 hX0
  go_enter Tryd.func41, Tryd.ntmps41
  go_wp2_with fail
  rw [← HX0.out]
  generalize w.alloc (.cells #[.pointer (some ⟨T, 0, none⟩)] 86) = w0 at HXB K0 ⊢
  refine wp_region_any (by kernel_rfl) ?_
  change wpAny _ _ _ _ _ _ _ (World.drew w0)
  have hmm := @run_makeMap Tryd.prog
  have eg := enters_of Tryd.func56 (by kernel_rfl) rfl
  refine wpAny_inv (FInv T X0 w0) ?_ ?_ ?_ ?_ _ _ _ _ ?_ ?_
  · intro f l a w h
    exact h.sz
  · exact deps_of (by kernel_rfl)
  · intro f l a w i o h hl ho hd0
    obtain ⟨M, n, B, e⟩ := h.ex
    have hi : i < 35 := (Array.getElem?_eq_some_iff.1 ho).1
    match i, hi with
    | 0, _ =>
      have ho2 := ho
      simp only [List.getElem?_toArray, List.getElem?_cons_succ, List.getElem?_cons_zero, Option.some.injEq] at ho2
      subst ho2
      refine wpOp_value ho rfl (v := .map (some w.heap.size)) (w' := w.alloc (.map #[] 0)) ?_ (finv_made h e hl)
      simp [execOp, go_sem, hmm]
    | 1, _ =>
      have ho2 := ho
      simp only [List.getElem?_toArray, List.getElem?_cons_succ, List.getElem?_cons_zero, Option.some.injEq] at ho2
      subst ho2
      have s3 : a.tmps[3]?.getD undef = .func (.func 56) #[] #[] := h.s3
      refine wpOp_value ho rfl (v := .func (.func 56) #[] #[]) (w' := w) ?_ (finv_same h e rfl (by decide) (by omega) rfl (by omega))
      simp [execOp, go_sem, s3]
    | 2, _ =>
      have ho2 := ho
      simp only [List.getElem?_toArray, List.getElem?_cons_succ, List.getElem?_cons_zero, Option.some.injEq] at ho2
      subst ho2
      have s1 : a.tmps[1]?.getD undef = .pointer (some ⟨X0, 0, none⟩) := h.s1
      have c0 := cell_blk h.x0 0
      refine wpOp_value ho rfl (v := .pointer (some ⟨T, 0, none⟩)) (w' := w) ?_ (finv_same h e rfl (by decide) (by omega) rfl (by omega))
      simp [execOp, go_sem, s1, c0]
    | 3, _ =>
      have ho2 := ho
      simp only [List.getElem?_toArray, List.getElem?_cons_succ, List.getElem?_cons_zero, Option.some.injEq] at ho2
      subst ho2
      have d1 := hd0 ⟨2, .data⟩ (by simp) rfl
      have s6 : a.tmps[6]?.getD undef = .pointer (some ⟨T, 0, none⟩) := e.sl 2 rfl d1
      refine wpOp_value ho rfl (v := .pointer (some ⟨T, 0, none⟩)) (w' := w) ?_ (finv_same h e rfl (by decide) (by omega) rfl (by omega))
      simp [execOp, go_sem, s6]
    | 4, _ =>
      have ho2 := ho
      simp only [List.getElem?_toArray, List.getElem?_cons_succ, List.getElem?_cons_zero, Option.some.injEq] at ho2
      subst ho2
      have d1 := hd0 ⟨3, .data⟩ (by simp) rfl
      have s7 : a.tmps[7]?.getD undef = .pointer (some ⟨T, 0, none⟩) := e.sl 3 rfl d1
      refine wpOp_value ho rfl (v := .pointer (some ⟨T, 1, none⟩)) (w' := w) ?_ (finv_same h e rfl (by decide) (by omega) rfl (by omega))
      simp [execOp, go_sem, s7]
    | 5, _ =>
      have ho2 := ho
      simp only [List.getElem?_toArray, List.getElem?_cons_succ, List.getElem?_cons_zero, Option.some.injEq] at ho2
      subst ho2
      have d1 := hd0 ⟨1, .data⟩ (by simp) rfl
      have d2 := hd0 ⟨4, .data⟩ (by simp) rfl
      have s5 : a.tmps[5]?.getD undef = .func (.func 56) #[] #[] := e.sl 1 rfl d1
      have s8 : a.tmps[8]?.getD undef = .pointer (some ⟨T, 1, none⟩) := e.sl 4 rfl d2
      refine wpOp_enter ho rfl (w' := w) (f := 56) (args := #[.pointer (some ⟨T, 1, none⟩)]) (R := fun w' => w' = w.alloc (.cells #[.pointer (some ⟨T, 1, none⟩)] 104)) ?_ (setTo_any _ _) ?_
      · simp [execOp, go_sem, s5, s8, resolve, invoke, eg]
      · rintro w'' rfl
        exact finv_call h e 0 (by decide) hl
    | 6, _ =>
      have ho2 := ho
      simp only [List.getElem?_toArray, List.getElem?_cons_succ, List.getElem?_cons_zero, Option.some.injEq] at ho2
      subst ho2
      have d0 := hd0 ⟨0, .data⟩ (by simp) rfl
      have d1 := hd0 ⟨5, .data⟩ (by simp) rfl
      have s4 : a.tmps[4]?.getD undef = .map (some M) := e.sl 0 rfl d0
      have sv : a.tmps[9]?.getD undef = fldV B 0 := e.sl 5 rfl d1
      obtain ⟨w', hr, hn⟩ := finv_ins h e 0 (by decide) d0 (fun _ => by first | exact d1 | omega)
      have hr2 : (Instr.mapUpdate 84 (.map (some M)) (.string ⟨#[99]⟩) (fldV B 0)).run Tryd.prog w = .ok () w' := hr
      refine wpOp_skip ho rfl (w' := w') ?_ hn
      simp [execOp, go_sem, s4, sv, hr2]
    | 7, _ =>
      have ho2 := ho
      simp only [List.getElem?_toArray, List.getElem?_cons_succ, List.getElem?_cons_zero, Option.some.injEq] at ho2
      subst ho2
      have s3 : a.tmps[3]?.getD undef = .func (.func 56) #[] #[] := h.s3
      refine wpOp_value ho rfl (v := .func (.func 56) #[] #[]) (w' := w) ?_ (finv_same h e rfl (by decide) (by omega) rfl (by omega))
      simp [execOp, go_sem, s3]
    | 8, _ =>
      have ho2 := ho
      simp only [List.getElem?_toArray, List.getElem?_cons_succ, List.getElem?_cons_zero, Option.some.injEq] at ho2
      subst ho2
      have s1 : a.tmps[1]?.getD undef = .pointer (some ⟨X0, 0, none⟩) := h.s1
      have c0 := cell_blk h.x0 0
      refine wpOp_value ho rfl (v := .pointer (some ⟨T, 0, none⟩)) (w' := w) ?_ (finv_same h e rfl (by decide) (by omega) rfl (by omega))
      simp [execOp, go_sem, s1, c0]
    | 9, _ =>
      have ho2 := ho
      simp only [List.getElem?_toArray, List.getElem?_cons_succ, List.getElem?_cons_zero, Option.some.injEq] at ho2
      subst ho2
      have d1 := hd0 ⟨8, .data⟩ (by simp) rfl
      have s6 : a.tmps[11]?.getD undef = .pointer (some ⟨T, 0, none⟩) := e.sl 8 rfl d1
      refine wpOp_value ho rfl (v := .pointer (some ⟨T, 0, none⟩)) (w' := w) ?_ (finv_same h e rfl (by decide) (by omega) rfl (by omega))
      simp [execOp, go_sem, s6]
    | 10, _ =>
      have ho2 := ho
      simp only [List.getElem?_toArray, List.getElem?_cons_succ, List.getElem?_cons_zero, Option.some.injEq] at ho2
      subst ho2
      have d1 := hd0 ⟨9, .data⟩ (by simp) rfl
      have s7 : a.tmps[12]?.getD undef = .pointer (some ⟨T, 0, none⟩) := e.sl 9 rfl d1
      refine wpOp_value ho rfl (v := .pointer (some ⟨T, 2, none⟩)) (w' := w) ?_ (finv_same h e rfl (by decide) (by omega) rfl (by omega))
      simp [execOp, go_sem, s7]
    | 11, _ =>
      have ho2 := ho
      simp only [List.getElem?_toArray, List.getElem?_cons_succ, List.getElem?_cons_zero, Option.some.injEq] at ho2
      subst ho2
      have d1 := hd0 ⟨7, .data⟩ (by simp) rfl
      have d2 := hd0 ⟨10, .data⟩ (by simp) rfl
      have s5 : a.tmps[10]?.getD undef = .func (.func 56) #[] #[] := e.sl 7 rfl d1
      have s8 : a.tmps[13]?.getD undef = .pointer (some ⟨T, 2, none⟩) := e.sl 10 rfl d2
      refine wpOp_enter ho rfl (w' := w) (f := 56) (args := #[.pointer (some ⟨T, 2, none⟩)]) (R := fun w' => w' = w.alloc (.cells #[.pointer (some ⟨T, 2, none⟩)] 104)) ?_ (setTo_any _ _) ?_
      · simp [execOp, go_sem, s5, s8, resolve, invoke, eg]
      · rintro w'' rfl
        exact finv_call h e 1 (by decide) hl
    | 12, _ =>
      have ho2 := ho
      simp only [List.getElem?_toArray, List.getElem?_cons_succ, List.getElem?_cons_zero, Option.some.injEq] at ho2
      subst ho2
      have d0 := hd0 ⟨0, .data⟩ (by simp) rfl
      have d1 := hd0 ⟨11, .data⟩ (by simp) rfl
      have s4 : a.tmps[4]?.getD undef = .map (some M) := e.sl 0 rfl d0
      have sv : a.tmps[14]?.getD undef = fldV B 1 := e.sl 11 rfl d1
      obtain ⟨w', hr, hn⟩ := finv_ins h e 1 (by decide) d0 (fun _ => by first | exact d1 | omega)
      have hr2 : (Instr.mapUpdate 84 (.map (some M)) (.string ⟨#[116]⟩) (fldV B 1)).run Tryd.prog w = .ok () w' := hr
      refine wpOp_skip ho rfl (w' := w') ?_ hn
      simp [execOp, go_sem, s4, sv, hr2]
    | 13, _ =>
      have ho2 := ho
      simp only [List.getElem?_toArray, List.getElem?_cons_succ, List.getElem?_cons_zero, Option.some.injEq] at ho2
      subst ho2
      have s3 : a.tmps[3]?.getD undef = .func (.func 56) #[] #[] := h.s3
      refine wpOp_value ho rfl (v := .func (.func 56) #[] #[]) (w' := w) ?_ (finv_same h e rfl (by decide) (by omega) rfl (by omega))
      simp [execOp, go_sem, s3]
    | 14, _ =>
      have ho2 := ho
      simp only [List.getElem?_toArray, List.getElem?_cons_succ, List.getElem?_cons_zero, Option.some.injEq] at ho2
      subst ho2
      have s1 : a.tmps[1]?.getD undef = .pointer (some ⟨X0, 0, none⟩) := h.s1
      have c0 := cell_blk h.x0 0
      refine wpOp_value ho rfl (v := .pointer (some ⟨T, 0, none⟩)) (w' := w) ?_ (finv_same h e rfl (by decide) (by omega) rfl (by omega))
      simp [execOp, go_sem, s1, c0]
    | 15, _ =>
      have ho2 := ho
      simp only [List.getElem?_toArray, List.getElem?_cons_succ, List.getElem?_cons_zero, Option.some.injEq] at ho2
      subst ho2
      have d1 := hd0 ⟨14, .data⟩ (by simp) rfl
      have s6 : a.tmps[16]?.getD undef = .pointer (some ⟨T, 0, none⟩) := e.sl 14 rfl d1
      refine wpOp_value ho rfl (v := .pointer (some ⟨T, 0, none⟩)) (w' := w) ?_ (finv_same h e rfl (by decide) (by omega) rfl (by omega))
      simp [execOp, go_sem, s6]
    | 16, _ =>
      have ho2 := ho
      simp only [List.getElem?_toArray, List.getElem?_cons_succ, List.getElem?_cons_zero, Option.some.injEq] at ho2
      subst ho2
      have d1 := hd0 ⟨15, .data⟩ (by simp) rfl
      have s7 : a.tmps[17]?.getD undef = .pointer (some ⟨T, 0, none⟩) := e.sl 15 rfl d1
      refine wpOp_value ho rfl (v := .pointer (some ⟨T, 3, none⟩)) (w' := w) ?_ (finv_same h e rfl (by decide) (by omega) rfl (by omega))
      simp [execOp, go_sem, s7]
    | 17, _ =>
      have ho2 := ho
      simp only [List.getElem?_toArray, List.getElem?_cons_succ, List.getElem?_cons_zero, Option.some.injEq] at ho2
      subst ho2
      have d1 := hd0 ⟨13, .data⟩ (by simp) rfl
      have d2 := hd0 ⟨16, .data⟩ (by simp) rfl
      have s5 : a.tmps[15]?.getD undef = .func (.func 56) #[] #[] := e.sl 13 rfl d1
      have s8 : a.tmps[18]?.getD undef = .pointer (some ⟨T, 3, none⟩) := e.sl 16 rfl d2
      refine wpOp_enter ho rfl (w' := w) (f := 56) (args := #[.pointer (some ⟨T, 3, none⟩)]) (R := fun w' => w' = w.alloc (.cells #[.pointer (some ⟨T, 3, none⟩)] 104)) ?_ (setTo_any _ _) ?_
      · simp [execOp, go_sem, s5, s8, resolve, invoke, eg]
      · rintro w'' rfl
        exact finv_call h e 2 (by decide) hl
    | 18, _ =>
      have ho2 := ho
      simp only [List.getElem?_toArray, List.getElem?_cons_succ, List.getElem?_cons_zero, Option.some.injEq] at ho2
      subst ho2
      have d0 := hd0 ⟨0, .data⟩ (by simp) rfl
      have d1 := hd0 ⟨17, .data⟩ (by simp) rfl
      have s4 : a.tmps[4]?.getD undef = .map (some M) := e.sl 0 rfl d0
      have sv : a.tmps[19]?.getD undef = fldV B 2 := e.sl 17 rfl d1
      obtain ⟨w', hr, hn⟩ := finv_ins h e 2 (by decide) d0 (fun _ => by first | exact d1 | omega)
      have hr2 : (Instr.mapUpdate 84 (.map (some M)) (.string ⟨#[100]⟩) (fldV B 2)).run Tryd.prog w = .ok () w' := hr
      refine wpOp_skip ho rfl (w' := w') ?_ hn
      simp [execOp, go_sem, s4, sv, hr2]
    | 19, _ =>
      have ho2 := ho
      simp only [List.getElem?_toArray, List.getElem?_cons_succ, List.getElem?_cons_zero, Option.some.injEq] at ho2
      subst ho2
      have s3 : a.tmps[3]?.getD undef = .func (.func 56) #[] #[] := h.s3
      refine wpOp_value ho rfl (v := .func (.func 56) #[] #[]) (w' := w) ?_ (finv_same h e rfl (by decide) (by omega) rfl (by omega))
      simp [execOp, go_sem, s3]
    | 20, _ =>
      have ho2 := ho
      simp only [List.getElem?_toArray, List.getElem?_cons_succ, List.getElem?_cons_zero, Option.some.injEq] at ho2
      subst ho2
      have s1 : a.tmps[1]?.getD undef = .pointer (some ⟨X0, 0, none⟩) := h.s1
      have c0 := cell_blk h.x0 0
      refine wpOp_value ho rfl (v := .pointer (some ⟨T, 0, none⟩)) (w' := w) ?_ (finv_same h e rfl (by decide) (by omega) rfl (by omega))
      simp [execOp, go_sem, s1, c0]
    | 21, _ =>
      have ho2 := ho
      simp only [List.getElem?_toArray, List.getElem?_cons_succ, List.getElem?_cons_zero, Option.some.injEq] at ho2
      subst ho2
      have d1 := hd0 ⟨20, .data⟩ (by simp) rfl
      have s6 : a.tmps[21]?.getD undef = .pointer (some ⟨T, 0, none⟩) := e.sl 20 rfl d1
      refine wpOp_value ho rfl (v := .pointer (some ⟨T, 0, none⟩)) (w' := w) ?_ (finv_same h e rfl (by decide) (by omega) rfl (by omega))
      simp [execOp, go_sem, s6]
    | 22, _ =>
      have ho2 := ho
      simp only [List.getElem?_toArray, List.getElem?_cons_succ, List.getElem?_cons_zero, Option.some.injEq] at ho2
      subst ho2
      have d1 := hd0 ⟨21, .data⟩ (by simp) rfl
      have s7 : a.tmps[22]?.getD undef = .pointer (some ⟨T, 0, none⟩) := e.sl 21 rfl d1
      refine wpOp_value ho rfl (v := .pointer (some ⟨T, 4, none⟩)) (w' := w) ?_ (finv_same h e rfl (by decide) (by omega) rfl (by omega))
      simp [execOp, go_sem, s7]
    | 23, _ =>
      have ho2 := ho
      simp only [List.getElem?_toArray, List.getElem?_cons_succ, List.getElem?_cons_zero, Option.some.injEq] at ho2
      subst ho2
      have d1 := hd0 ⟨19, .data⟩ (by simp) rfl
      have d2 := hd0 ⟨22, .data⟩ (by simp) rfl
      have s5 : a.tmps[20]?.getD undef = .func (.func 56) #[] #[] := e.sl 19 rfl d1
      have s8 : a.tmps[23]?.getD undef = .pointer (some ⟨T, 4, none⟩) := e.sl 22 rfl d2
      refine wpOp_enter ho rfl (w' := w) (f := 56) (args := #[.pointer (some ⟨T, 4, none⟩)]) (R := fun w' => w' = w.alloc (.cells #[.pointer (some ⟨T, 4, none⟩)] 104)) ?_ (setTo_any _ _) ?_
      · simp [execOp, go_sem, s5, s8, resolve, invoke, eg]
      · rintro w'' rfl
        exact finv_call h e 3 (by decide) hl
    | 24, _ =>
      have ho2 := ho
      simp only [List.getElem?_toArray, List.getElem?_cons_succ, List.getElem?_cons_zero, Option.some.injEq] at ho2
      subst ho2
      have d0 := hd0 ⟨0, .data⟩ (by simp) rfl
      have d1 := hd0 ⟨23, .data⟩ (by simp) rfl
      have s4 : a.tmps[4]?.getD undef = .map (some M) := e.sl 0 rfl d0
      have sv : a.tmps[24]?.getD undef = fldV B 3 := e.sl 23 rfl d1
      obtain ⟨w', hr, hn⟩ := finv_ins h e 3 (by decide) d0 (fun _ => by first | exact d1 | omega)
      have hr2 : (Instr.mapUpdate 84 (.map (some M)) (.string ⟨#[106]⟩) (fldV B 3)).run Tryd.prog w = .ok () w' := hr
      refine wpOp_skip ho rfl (w' := w') ?_ hn
      simp [execOp, go_sem, s4, sv, hr2]
    | 25, _ =>
      have ho2 := ho
      simp only [List.getElem?_toArray, List.getElem?_cons_succ, List.getElem?_cons_zero, Option.some.injEq] at ho2
      subst ho2
      have s3 : a.tmps[3]?.getD undef = .func (.func 56) #[] #[] := h.s3
      refine wpOp_value ho rfl (v := .func (.func 56) #[] #[]) (w' := w) ?_ (finv_same h e rfl (by decide) (by omega) rfl (by omega))
      simp [execOp, go_sem, s3]
    | 26, _ =>
      have ho2 := ho
      simp only [List.getElem?_toArray, List.getElem?_cons_succ, List.getElem?_cons_zero, Option.some.injEq] at ho2
      subst ho2
      have s1 : a.tmps[1]?.getD undef = .pointer (some ⟨X0, 0, none⟩) := h.s1
      have c0 := cell_blk h.x0 0
      refine wpOp_value ho rfl (v := .pointer (some ⟨T, 0, none⟩)) (w' := w) ?_ (finv_same h e rfl (by decide) (by omega) rfl (by omega))
      simp [execOp, go_sem, s1, c0]
    | 27, _ =>
      have ho2 := ho
      simp only [List.getElem?_toArray, List.getElem?_cons_succ, List.getElem?_cons_zero, Option.some.injEq] at ho2
      subst ho2
      have d1 := hd0 ⟨26, .data⟩ (by simp) rfl
      have s6 : a.tmps[26]?.getD undef = .pointer (some ⟨T, 0, none⟩) := e.sl 26 rfl d1
      refine wpOp_value ho rfl (v := .pointer (some ⟨T, 0, none⟩)) (w' := w) ?_ (finv_same h e rfl (by decide) (by omega) rfl (by omega))
      simp [execOp, go_sem, s6]
    | 28, _ =>
      have ho2 := ho
      simp only [List.getElem?_toArray, List.getElem?_cons_succ, List.getElem?_cons_zero, Option.some.injEq] at ho2
      subst ho2
      have d1 := hd0 ⟨27, .data⟩ (by simp) rfl
      have s7 : a.tmps[27]?.getD undef = .pointer (some ⟨T, 0, none⟩) := e.sl 27 rfl d1
      refine wpOp_value ho rfl (v := .pointer (some ⟨T, 5, none⟩)) (w' := w) ?_ (finv_same h e rfl (by decide) (by omega) rfl (by omega))
      simp [execOp, go_sem, s7]
    | 29, _ =>
      have ho2 := ho
      simp only [List.getElem?_toArray, List.getElem?_cons_succ, List.getElem?_cons_zero, Option.some.injEq] at ho2
      subst ho2
      have d1 := hd0 ⟨25, .data⟩ (by simp) rfl
      have d2 := hd0 ⟨28, .data⟩ (by simp) rfl
      have s5 : a.tmps[25]?.getD undef = .func (.func 56) #[] #[] := e.sl 25 rfl d1
      have s8 : a.tmps[28]?.getD undef = .pointer (some ⟨T, 5, none⟩) := e.sl 28 rfl d2
      refine wpOp_enter ho rfl (w' := w) (f := 56) (args := #[.pointer (some ⟨T, 5, none⟩)]) (R := fun w' => w' = w.alloc (.cells #[.pointer (some ⟨T, 5, none⟩)] 104)) ?_ (setTo_any _ _) ?_
      · simp [execOp, go_sem, s5, s8, resolve, invoke, eg]
      · rintro w'' rfl
        exact finv_call h e 4 (by decide) hl
    | 30, _ =>
      have ho2 := ho
      simp only [List.getElem?_toArray, List.getElem?_cons_succ, List.getElem?_cons_zero, Option.some.injEq] at ho2
      subst ho2
      have d0 := hd0 ⟨0, .data⟩ (by simp) rfl
      have d1 := hd0 ⟨29, .data⟩ (by simp) rfl
      have s4 : a.tmps[4]?.getD undef = .map (some M) := e.sl 0 rfl d0
      have sv : a.tmps[29]?.getD undef = fldV B 4 := e.sl 29 rfl d1
      obtain ⟨w', hr, hn⟩ := finv_ins h e 4 (by decide) d0 (fun _ => by first | exact d1 | omega)
      have hr2 : (Instr.mapUpdate 84 (.map (some M)) (.string ⟨#[113]⟩) (fldV B 4)).run Tryd.prog w = .ok () w' := hr
      refine wpOp_skip ho rfl (w' := w') ?_ hn
      simp [execOp, go_sem, s4, sv, hr2]
    | 31, _ =>
      have ho2 := ho
      simp only [List.getElem?_toArray, List.getElem?_cons_succ, List.getElem?_cons_zero, Option.some.injEq] at ho2
      subst ho2
      have s1 : a.tmps[1]?.getD undef = .pointer (some ⟨X0, 0, none⟩) := h.s1
      have hb5 := e.b5
      refine wpOp_value ho rfl (v := fldV B 5) (w' := w) ?_ (finv_same h e rfl (by decide) (by omega) rfl (by omega))
      simp [execOp, go_sem, s1, fldV, hb5]
    | 32, _ =>
      have ho2 := ho
      simp only [List.getElem?_toArray, List.getElem?_cons_succ, List.getElem?_cons_zero, Option.some.injEq] at ho2
      subst ho2
      have d0 := hd0 ⟨0, .data⟩ (by simp) rfl
      have d1 := hd0 ⟨31, .data⟩ (by simp) rfl
      have s4 : a.tmps[4]?.getD undef = .map (some M) := e.sl 0 rfl d0
      have sv : a.tmps[30]?.getD undef = fldV B 5 := e.sl 31 rfl d1
      obtain ⟨w', hr, hn⟩ := finv_ins h e 5 (by decide) d0 (fun _ => by first | exact d1 | omega)
      have hr2 : (Instr.mapUpdate 84 (.map (some M)) (.string ⟨#[112]⟩) (fldV B 5)).run Tryd.prog w = .ok () w' := hr
      refine wpOp_skip ho rfl (w' := w') ?_ hn
      simp [execOp, go_sem, s4, sv, hr2]
    | 33, _ =>
      have ho2 := ho
      simp only [List.getElem?_toArray, List.getElem?_cons_succ, List.getElem?_cons_zero, Option.some.injEq] at ho2
      subst ho2
      have d0 := hd0 ⟨0, .data⟩ (by simp) rfl
      have s4 : a.tmps[4]?.getD undef = .map (some M) := e.sl 0 rfl d0
      refine wpOp_value ho rfl (v := .map (some M)) (w' := w) ?_ (finv_same h e rfl (by decide) (by omega) rfl (fun _ => d0))
      simp [execOp, go_sem, s4]
    | 34, _ =>
      have ho2 := ho
      simp only [List.getElem?_toArray, List.getElem?_cons_succ, List.getElem?_cons_zero, Option.some.injEq] at ho2
      subst ho2
      have d33 := hd0 ⟨33, .data⟩ (by simp) rfl
      have s4 : a.tmps[31]?.getD undef = .map (some M) := e.sl 33 rfl d33
      refine wpOp_value ho rfl (v := .map (some M)) (w' := w) ?_ (finv_same h e rfl (by decide) (by omega) rfl (fun _ => e.c0 33 (.inl rfl) d33))
      simp [execOp, go_sem, s4]
    | n + 35, h => omega
  · intro f l a w' h hall
    obtain ⟨M, n, B, e⟩ := h.ex
    have hall' : ∀ i, i < 35 → l.getD i false = true := hall
    have s2 : a.tmps[2]?.getD undef = .map (some M) := e.sl 34 rfl (hall' 34 (by decide))
    have S2 := Lib.hid s2
    have H := Lib.hid h
    have E := Lib.hid e
    have HALL := Lib.hid hall'
    clear s2 h e hall hall' hmm eg
    go_wp2
    have s2 := S2.out
    refine bodyPost_ret (v := .map (some M)) (by simp [results, Tryd.results41, go_sem, s2]) H.out.def_ ?_
    have hsz := K0.size
    obtain ⟨hM, hmap⟩ := E.out.mp (HALL.out 0 (by decide))
    have hnf := E.out.nf
    refine ⟨M, B, rfl, ⟨?_, fun i hi => (E.out.bx i hi (HALL.out _ (by omega))).1, by rw [E.out.b5]; exact H.out.x0⟩, K0.trans H.out.kp, by omega, fun i hi => ?_⟩
    · have hmono : IsMapF w' M 100 (mapF B (fun k => l.getD (fins k) false)) := by
        obtain ⟨D, q1, q2, q3⟩ := hmap
        exact ⟨D, q1.mono (by omega), q2, q3⟩
      exact hmono.congr (fun x _ => (mapF_congr (fun k hk => ⟨(HALL.out (fins k) (by unfold fins; split <;> omega)).symm, fun _ => ⟨rfl, rfl⟩⟩) x).symm)
    · by_cases h5 : i = 5
      · subst h5; rw [E.out.b5, HX0.out]; exact Nat.le_refl _
      · have := (E.out.bx i (by omega) (HALL.out _ (by omega))).2
        omega
  · have hr : ∀ n i, (Array.replicate n false).getD i false = false := by
      intro n i
      rw [Array.getD_eq_getD_getElem?, Array.getElem?_replicate]
      split <;> rfl
    refine ⟨by simp, rfl, rfl, rfl, rfl, HXB.out, (Keeps.refl _ _).drew, 0, 0, fun _ => X0, rfl, by simp, ?_, ?_, ?_, ?_, ?_⟩
    all_goals
      intros
      rename_i hh
      rw [hr] at hh
      cases hh
  · simp
end Go.Proofs.YtefdcjmfbjlinaaDoor.Sc
