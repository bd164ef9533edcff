/- text's reader: a line's task. -/
import Derived.Test.YtefdcjmfbjlinaaDoorPlain2
import Derived.Test.YtefdcjmfbjlinaaDoorFields2
import Derived.Deep.LoopGhost
namespace Go.Proofs.YtefdcjmfbjlinaaDoor.Sc
open Go.RowKit Go.Shelf Go.Maps

def TaskPost (R : Nat) (A : Option Addr) (cap k e : Nat) (ts : List Tk) (w : World) (r : Ending) (w' : World) : Prop :=
  ∃ (x : Tsk) (o : Option Tsk) (k' : Nat), r = .returned (.tuple #[tskV x, .bool o.isSome]) ∧ (∀ y, o = some y → y = x) ∧ taskL (ts.drop k) = (o, ts.drop k') ∧ k' ≤ ts.length ∧ w'.heap[R]? = some (rdO A ts.length cap k' e) ∧ Keeps [R] w w'
def tskO (x : Tsk) : Obj := .cells (cellsTsk x).toArray 29 (0, 0)
def x0 : Tsk := ⟨⟨#[]⟩, 0, 0, -1, 0, 1, 0⟩
theorem facts7 {w : World} {b : Nat} {x : Tsk} (h : w.heap[b]? = some (tskO x)) :
    w.cell? ⟨b, 0, none⟩ = some (.string x.nm) ∧ w.cell? ⟨b, 1, none⟩ = some (.int .i64 x.c) ∧ w.cell? ⟨b, 2, none⟩ = some (.int .i64 x.t) ∧ w.cell? ⟨b, 3, none⟩ = some (.int .i64 x.d) ∧ w.cell? ⟨b, 4, none⟩ = some (.int .i64 x.j) ∧ w.cell? ⟨b, 5, none⟩ = some (.int .i64 x.q) ∧ w.cell? ⟨b, 6, none⟩ = some (.int .i64 x.p) ∧
    w.frozen? ⟨b, 0, none⟩ = false ∧ w.frozen? ⟨b, 1, none⟩ = false ∧ w.frozen? ⟨b, 2, none⟩ = false ∧ w.frozen? ⟨b, 3, none⟩ = false ∧ w.frozen? ⟨b, 4, none⟩ = false ∧ w.frozen? ⟨b, 5, none⟩ = false ∧ w.frozen? ⟨b, 6, none⟩ = false :=
  ⟨cell_blk h 0, cell_blk h 1, cell_blk h 2, cell_blk h 3, cell_blk h 4, cell_blk h 5, cell_blk h 6, free_blk h 0, free_blk h 1, free_blk h 2, free_blk h 3, free_blk h 4, free_blk h 5, free_blk h 6⟩
theorem put7_blk {w : World} {b C : Nat} {o : Obj} (h : w.heap[b]? = some o) (hne : C ≠ b) (v0 v1 v2 v3 v4 v5 v6 : Value) :
    (((((((w.setCell ⟨C, 0, none⟩ v0).setCell ⟨C, 1, none⟩ v1).setCell ⟨C, 2, none⟩ v2).setCell ⟨C, 3, none⟩ v3).setCell ⟨C, 4, none⟩ v4).setCell ⟨C, 5, none⟩ v5).setCell ⟨C, 6, none⟩ v6).heap[b]? = some o :=
  blk_set_other (blk_set_other (blk_set_other (blk_set_other (blk_set_other (blk_set_other (blk_set_other h _ _ hne) _ _ hne) _ _ hne) _ _ hne) _ _ hne) _ _ hne) _ _ hne
theorem put7_keeps {F : List Nat} {w0 w : World} {C : Nat} (h : Keeps F w0 w) (hC : w0.heap.size ≤ C) (v0 v1 v2 v3 v4 v5 v6 : Value) :
    Keeps F w0 (((((((w.setCell ⟨C, 0, none⟩ v0).setCell ⟨C, 1, none⟩ v1).setCell ⟨C, 2, none⟩ v2).setCell ⟨C, 3, none⟩ v3).setCell ⟨C, 4, none⟩ v4).setCell ⟨C, 5, none⟩ v5).setCell ⟨C, 6, none⟩ v6) :=
  ((((((h.setCell C 0 _ (.inr hC)).setCell C 1 _ (.inr hC)).setCell C 2 _ (.inr hC)).setCell C 3 _ (.inr hC)).setCell C 4 _ (.inr hC)).setCell C 5 _ (.inr hC)).setCell C 6 _ (.inr hC)
def LpRel (ts : List Tk) (k k1 : Nat) (x : Tsk) (rem : Nat → Bool) : Bool → Prop
  | true => taskL (ts.drop k) = fieldsL (ts.drop k1) x rem
  | false => taskL (ts.drop k) = (none, ts.drop k1)
def lpM (n k1 : Nat) : Bool → Nat
  | true => n + 1 - k1
  | false => 0
theorem lpM_true (n k1 : Nat) : lpM n k1 true = n + 1 - k1 := rfl
theorem lp_start {ts : List Tk} {k k2 e : Nat} {t u : Tk} {b : Bool} (ht : ts[k]? = some t) (htx : t.text = [116, 97, 115, 107]) (hu : hereT ts (k + 1) e = u)
    (hb : (b = true ∧ u.kind = 1 ∧ k2 = k + 1 + 1) ∨ (b = false ∧ u.kind ≠ 1 ∧ k2 = k + 1)) (hk : k < ts.length) : k2 ≤ ts.length ∧ LpRel ts k k2 ⟨⟨u.text.toArray⟩, 0, 0, -1, 0, 1, 0⟩ (fun _ => true) b := by
  have hd := drop_cons ht
  rcases hb with ⟨rfl, hk1, rfl⟩ | ⟨rfl, hk1, rfl⟩
  · have hu2 := here_some hu (.inl (by rw [hk1]; decide))
    have hd2 := drop_cons hu2
    have hlt : k + 1 < ts.length := by
      rcases Nat.lt_or_ge (k + 1) ts.length with h | h
      · exact h
      · rw [List.getElem?_eq_none h] at hu2; cases hu2
    refine ⟨by omega, ?_⟩
    show taskL _ = _
    rw [hd, hd2]
    simp [taskL, taskW, htx, hk1]
  · refine ⟨by omega, ?_⟩
    show taskL _ = _
    rw [hd]
    cases hd2 : ts.drop (k + 1) with
    | nil => simp [taskL, taskW, htx]
    | cons v l =>
      have hv : ts[k + 1]? = some v := by
        have := congrArg (fun l => l[0]?) hd2
        simpa using this
      unfold hereT at hu
      rw [hv] at hu
      simp at hu
      subst hu
      simp [taskL, taskW, htx, hk1]
theorem Flds.turn {w w' : World} {T M : Nat} {B : Nat → Nat} {rem rem' : Nat → Bool} (h : Flds w T M B rem) (hm : IsMapF w' M 100 (mapF B rem')) (k : Keeps [M] w w') : Flds w' T M B rem' := by
  have hmo : ∃ es clock, w.heap[M]? = some (.map es clock) := by
    obtain ⟨D, ⟨es, clock, h1, _⟩, _⟩ := h.map
    exact ⟨es, clock, h1⟩
  obtain ⟨es, clock, hmo⟩ := hmo
  refine ⟨hm, fun i hi => k.blk (h.box i hi) ?_, k.blk h.boxp ?_⟩
  · have := h.box i hi
    simp
    intro e
    rw [e, hmo] at this
    cases this
  · have := h.boxp
    simp
    intro e
    rw [e, hmo] at this
    cases this
theorem tsk_set {w : World} {C : Nat} {x : Tsk} (h : w.heap[C]? = some (tskO x)) (n : Int) (i : Nat) (hi : i < 6) : (w.setCell ⟨C, i + 1, none⟩ (.int .i64 n)).heap[C]? = some (tskO (setF i n x)) := by
  rw [blk_set_same h (i + 1) (.int .i64 n)]
  have : i = 0 ∨ i = 1 ∨ i = 2 ∨ i = 3 ∨ i = 4 ∨ i = 5 := by omega
  rcases this with rfl | rfl | rfl | rfl | rfl | rfl <;> simp [tskO, cellsTsk, setF]
theorem tsk_cell {w : World} {C : Nat} {x : Tsk} (h : w.heap[C]? = some (tskO x)) (i : Nat) (hi : i < 6) : ∃ v, w.cell? ⟨C, i + 1, none⟩ = some v := by
  have : i = 0 ∨ i = 1 ∨ i = 2 ∨ i = 3 ∨ i = 4 ∨ i = 5 := by omega
  rcases this with rfl | rfl | rfl | rfl | rfl | rfl <;> exact ⟨_, cell_blk h _⟩
theorem setAny {w : World} {T M : Nat} {B : Nat → Nat} {rem : Nat → Bool} {x : Tsk} {i : Nat} (hF : Flds w T M B rem) (hT : w.heap[T]? = some (tskO x)) (hi : i < 6) (h5 : i ≠ 5) (n : Int) :
    Calls Tryd.prog 57 #[.int .i64 n, .pointer (some ⟨B i, 0, none⟩)] w fun e w' => e = .returned (.tuple #[]) ∧ w' = w.setCell ⟨T, i + 1, none⟩ (.int .i64 n) := by
  obtain ⟨v, hv⟩ := tsk_cell hT i hi
  exact setF_any n (B i) T (i + 1) v w (cell_blk (hF.box i (by omega)) 0) hv (free_blk hT _)
theorem setAny5 {w : World} {T M : Nat} {B : Nat → Nat} {rem : Nat → Bool} {x : Tsk} (hF : Flds w T M B rem) (hT : w.heap[T]? = some (tskO x)) (n : Int) :
    Calls Tryd.prog 58 #[.int .i64 n, .pointer (some ⟨B 5, 0, none⟩)] w fun e w' => e = .returned (.tuple #[]) ∧ w' = w.setCell ⟨T, 5 + 1, none⟩ (.int .i64 n) := by
  obtain ⟨v, hv⟩ := tsk_cell hT 5 (by decide)
  exact setP_any n (B 5) T v w (cell_blk hF.boxp 0) hv (free_blk hT _)
theorem lp_step {ts : List Tk} {k k1 k4 e i : Nat} {x : Tsk} {rem : Nat → Bool} {v z : Tk} {b : Bool} (hv : ts[k1]? = some v) (h4 : v.kind ≠ 4) (hi : fldI v.text = some i) (hr : rem i = true) (h3 : (hereT ts (k1 + 1) e).kind = 3) (hz : hereT ts (k1 + 1 + 1) e = z)
    (hb : (b = true ∧ (hereT ts (k1 + 1 + 1) e).kind = 2 ∧ k4 = k1 + 1 + 1 + 1) ∨ (b = false ∧ (hereT ts (k1 + 1 + 1) e).kind ≠ 2 ∧ k4 = k1 + 1 + 1)) (hrel : LpRel ts k k1 x rem true) :
    lpM ts.length k4 b ≤ ts.length - k1 ∧ k4 ≤ ts.length ∧ LpRel ts k k4 (setF i z.num x) (offF rem i) b := by
  have hrel' : taskL (ts.drop k) = fieldsL (ts.drop k1) x rem := hrel
  have hu := lt_some (here_some (t := hereT ts (k1 + 1) e) rfl (.inl (by rw [h3]; decide)))
  rcases hb with ⟨rfl, hk, rfl⟩ | ⟨rfl, hk, rfl⟩
  · obtain ⟨h1, h2⟩ := fields_go (x := x) hv h4 hi hr h3 hk
    refine ⟨by rw [lpM_true]; omega, h1, ?_⟩
    show taskL _ = _
    rw [hrel', h2, hz]
  · refine ⟨Nat.zero_le _, by omega, ?_⟩
    show taskL _ = _
    rw [hrel', fields_num hv h4 hi hr h3 hk]

set_option maxHeartbeats 4000000 in
set_option maxRecDepth 100000 in
theorem task_any (R : Nat) (A : Option Addr) (cap k e : Nat) (ts : List Tk) (w : World) (hR : w.heap[R]? = some (rdO A ts.length cap k e)) (hT : RowTk w A ts) (hA : ∀ a, A = some a → a.block ≠ R) (hk : k ≤ ts.length) (hl : ts.length ≤ 100000) (htx : ∀ t ∈ ts, t.text.length ≤ maxLen) :
    Calls Tryd.prog 32 #[.pointer (some ⟨R, 0, none⟩)] w (TaskPost R A cap k e ts w) := by
  have HA := Lib.hid hA
  have HTW := Lib.hid hT
  have HTXT := Lib.hid htx
  clear htx
  have K0 : Keeps [] w ((w.alloc (.cells #[.string ⟨#[]⟩, .int .i64 0, .int .i64 0, .int .i64 0, .int .i64 0, .int .i64 0, .int .i64 0] 29)).alloc (.cells #[.string ⟨#[]⟩, .int .i64 0, .int .i64 0, .int .i64 (-1), .int .i64 0, .int .i64 1, .int .i64 0] 29)) := ((Keeps.refl _ _).alloc _).alloc _
  have hC0 : ((w.alloc (.cells #[.string ⟨#[]⟩, .int .i64 0, .int .i64 0, .int .i64 0, .int .i64 0, .int .i64 0, .int .i64 0] 29)).alloc (.cells #[.string ⟨#[]⟩, .int .i64 0, .int .i64 0, .int .i64 (-1), .int .i64 0, .int .i64 1, .int .i64 0] 29)).heap[w.heap.size]? = some (tskO ⟨⟨#[]⟩, 0, 0, 0, 0, 0, 0⟩) := blk_alloc (blk_new w _) _
  have hT0 : ((w.alloc (.cells #[.string ⟨#[]⟩, .int .i64 0, .int .i64 0, .int .i64 0, .int .i64 0, .int .i64 0, .int .i64 0] 29)).alloc (.cells #[.string ⟨#[]⟩, .int .i64 0, .int .i64 0, .int .i64 (-1), .int .i64 0, .int .i64 1, .int .i64 0] 29)).heap[w.heap.size + 1]? = some (tskO x0) := by
    have h := blk_new (w.alloc (.cells #[.string ⟨#[]⟩, .int .i64 0, .int .i64 0, .int .i64 0, .int .i64 0, .int .i64 0, .int .i64 0] 29)) (.cells #[.string ⟨#[]⟩, .int .i64 0, .int .i64 0, .int .i64 (-1), .int .i64 0, .int .i64 1, .int .i64 0] 29)
    rw [show (w.alloc (.cells #[.string ⟨#[]⟩, .int .i64 0, .int .i64 0, .int .i64 0, .int .i64 0, .int .i64 0, .int .i64 0] 29)).heap.size = w.heap.size + 1 by simp] at h
    exact h
  obtain ⟨C0, hC⟩ : ∃ C0, C0 = w.heap.size := ⟨_, rfl⟩
  have hCR : R < C0 := by have := blk_lt hR; omega
  rw [← hC] at hC0 hT0
  have HC := Lib.hid hC
  have HR := Lib.hid (K0.blk hR (by simp))
  have HTk := Lib.hid (hT.keeps K0 (by simp))
  have HC0 := Lib.hid hC0
  have HT0 := Lib.hid hT0
  clear hR hT hC0 hT0 hC hA
  go_enter Tryd.func32, Tryd.ntmps32
  go_wp2_with fail
  go_step3
  go_wp2_with fail
  rw [← HC.out]
  generalize ((w.alloc (.cells #[.string ⟨#[]⟩, .int .i64 0, .int .i64 0, .int .i64 0, .int .i64 0, .int .i64 0, .int .i64 0] 29)).alloc (.cells #[.string ⟨#[]⟩, .int .i64 0, .int .i64 0, .int .i64 (-1), .int .i64 0, .int .i64 1, .int .i64 0] 29)) = w1 at K0 HR HTk HC0 HT0 ⊢
  refine (fields_any (C0 + 1) w1).mono ?_
  rintro r w2 ⟨M, B, rfl, hF, K2, hM, hB⟩
  have hs1 := blk_lt HT0.out
  have HR2 := Lib.hid (K2.blk HR.out (by simp))
  have HTk2 := Lib.hid (HTk.out.keeps K2 (by simp))
  have HC2 := Lib.hid (K2.blk HC0.out (by simp))
  have HT2 := Lib.hid (K2.blk HT0.out (by simp))
  have HF := Lib.hid hF
  have HK2 := Lib.hid (K0.trans K2)
  have HMB := Lib.hid (And.intro hM hB)
  clear hF K2 hM hB HR HTk HC0 HT0 K0
  go_wp2_with fail
  refine (here_any R A cap k e ts _ HR2.out HTk2.out).mono ?_
  rintro r w3 ⟨rfl, K3⟩
  obtain ⟨t, ht⟩ : ∃ t, hereT ts k e = t := ⟨_, rfl⟩
  rw [ht]
  obtain ⟨kd1, at1, tx1, nu1⟩ := t
  simp only [tkV]
  have HE := Lib.hid ht
  have hf2 : ∀ W : World, (Instr.field 69 (.agg #[.int .i64 kd1, .int .i64 at1, .string ⟨tx1.toArray⟩, .int .i64 nu1]) 2).run Tryd.prog W = .ok (.string ⟨tx1.toArray⟩) W := fun _ => by kernel_rfl
  clear ht
  have HR3 := Lib.hid (K3.blk HR2.out (by simp))
  have HTk3 := Lib.hid (HTk2.out.keeps K3 (by simp))
  have HC3 := Lib.hid (K3.blk HC2.out (by simp))
  have HT3 := Lib.hid (K3.blk HT2.out (by simp))
  have HF3 : Hid (Flds w3 (C0 + 1) M B (fun _ => true)) := Lib.hid (HF.out.keeps K3)
  have HK3 := Lib.hid (HK2.out.trans K3)
  clear HR2 HTk2 HC2 HT2 HF HK2 K3
  by_cases ht : tx1 = [116, 97, 115, 107]
  · have htb : (tx1 == [116, 97, 115, 107]) = true := by simpa using ht
    have hts := here_some HE.out (.inr (by rw [ht]; simp))
    have hkl : k < ts.length := by
      rcases Nat.lt_or_ge k ts.length with h' | h'
      · exact h'
      · rw [List.getElem?_eq_none h'] at hts; cases hts
    have HTS := Lib.hid hts
    have HTX := Lib.hid ht
    clear hts ht HE
    obtain ⟨r0, r1, r2, rf0, rf1, rf2⟩ := facts3 HR3.out
    go_wp2_with fail
    have K4 : Keeps [R] w3 (w3.setCell ⟨R, 1, none⟩ (.int .i64 ((k : Int) + 1))) := (Keeps.refl _ _).setCell R 1 _ (.inl (by simp))
    have hAR : ∀ a, A = some a → a.block ∉ [R] := fun a ha => by simpa using HA.out a ha
    have hMR : M ∉ [R] := by have := HMB.out.1; simp; omega
    have hBR : ∀ i, i < 6 → B i ∉ [R] := fun i hi => by have := HMB.out.2 i hi; simp; omega
    have hC0R : C0 ∉ [R] := by simp; omega
    have hC1R : C0 + 1 ∉ [R] := by simp; omega
    have HNR := Lib.hid (And.intro hAR (And.intro hMR (And.intro hBR (And.intro hC0R hC1R))))
    have HR4 := Lib.hid (rd_step HR3.out)
    have HTk4 := Lib.hid (HTk3.out.keeps K4 hAR)
    have HC4 := Lib.hid (K4.blk HC3.out hC0R)
    have HT4 := Lib.hid (K4.blk HT3.out hC1R)
    have HF4 := Lib.hid (HF3.out.keeps K4 hMR hBR)
    have HK4 := Lib.hid ((HK3.out.mono (by simp)).trans K4)
    clear r0 r1 r2 rf0 rf1 rf2 HR3 HTk3 HC3 HT3 HF3 HK3 K4 hAR hMR hBR hC0R hC1R hf2
    generalize w3.setCell ⟨R, 1, none⟩ (.int .i64 ((k : Int) + 1)) = w4 at HR4 HTk4 HC4 HT4 HF4 HK4 ⊢
    refine (take_both R A cap (k + 1) e 1 ts w4 HR4.out HTk4.out (by omega)).mono ?_
    rintro r w5 ⟨b, k2, rfl, hb, hR5, K5⟩
    obtain ⟨u, hu⟩ : ∃ u, hereT ts (k + 1) e = u := ⟨_, rfl⟩
    rw [hu] at hb ⊢
    obtain ⟨kd2, at2, tx2, nu2⟩ := u
    simp only [tkV]
    have HU := Lib.hid hu
    have HBB := Lib.hid hb
    obtain ⟨hAR, hMR, hBR, hC0R, hC1R⟩ := HNR.out
    have HR5 := Lib.hid (blk_alloc hR5 (.cells #[.int .i64 kd2, .int .i64 at2, .string ⟨tx2.toArray⟩, .int .i64 nu2] 69))
    have K5a := K5.alloc (.cells #[.int .i64 kd2, .int .i64 at2, .string ⟨tx2.toArray⟩, .int .i64 nu2] 69)
    have HTk5 := Lib.hid (HTk4.out.keeps K5a hAR)
    have HC5 := Lib.hid (K5a.blk HC4.out hC0R)
    have HT5 := Lib.hid (K5a.blk HT4.out hC1R)
    have HF5 := Lib.hid (HF4.out.keeps K5a hMR hBR)
    have HK5 := Lib.hid (HK4.out.trans K5a)
    have hx5 := blk_new w5 (.cells #[.int .i64 kd2, .int .i64 at2, .string ⟨tx2.toArray⟩, .int .i64 nu2] 69)
    have n2 := cell_blk hx5 2
    have t0 := (facts7 HT5.out).1
    have tf0 := (facts7 HT5.out).2.2.2.2.2.2.2.1
    clear hu hb hR5 K5 K5a HR4 HTk4 HC4 HT4 HF4 HK4 hAR hMR hBR hC0R hC1R hx5
    go_wp2_with fail
    have hT6 : ((w5.alloc (.cells #[.int .i64 kd2, .int .i64 at2, .string ⟨tx2.toArray⟩, .int .i64 nu2] 69)).setCell ⟨C0 + 1, 0, none⟩ (.string ⟨tx2.toArray⟩)).heap[C0 + 1]? = some (tskO ⟨⟨tx2.toArray⟩, 0, 0, -1, 0, 1, 0⟩) := by
      rw [blk_set_same HT5.out 0 (.string ⟨tx2.toArray⟩)]
      simp [tskO, cellsTsk, x0]
    have K6 : Keeps [C0 + 1] (w5.alloc (.cells #[.int .i64 kd2, .int .i64 at2, .string ⟨tx2.toArray⟩, .int .i64 nu2] 69)) ((w5.alloc (.cells #[.int .i64 kd2, .int .i64 at2, .string ⟨tx2.toArray⟩, .int .i64 nu2] 69)).setCell ⟨C0 + 1, 0, none⟩ (.string ⟨tx2.toArray⟩)) := (Keeps.refl _ _).setCell _ 0 _ (.inl (by simp))
    have hMC : M ∉ [C0 + 1] := by have := HMB.out.1; simp; omega
    have hBC : ∀ i, i < 6 → B i ∉ [C0 + 1] := fun i hi => by have := HMB.out.2 i hi; simp; omega
    have HR6 := Lib.hid (K6.blk HR5.out (by simp; omega))
    have HC6 := Lib.hid (K6.blk HC5.out (by simp))
    have HT6 := Lib.hid hT6
    have HF6 := Lib.hid (HF5.out.keeps K6 hMC hBC)
    have HK6 := Lib.hid (HK5.out.andThen K6 (by intro g hg; simp at hg; subst hg; have := HC.out; exact .inr (by omega)))
    have HNC := Lib.hid (And.intro hMC hBC)
    have hst := lp_start HTS.out HTX.out HU.out HBB.out hkl
    have HST := Lib.hid hst
    clear t0 tf0 hT6 K6 hMC hBC HR5 HC5 HT5 HF5 HK5 HTk5 n2 hst htb
    generalize ((w5.alloc (.cells #[.int .i64 kd2, .int .i64 at2, .string ⟨tx2.toArray⟩, .int .i64 nu2] 69)).setCell ⟨C0 + 1, 0, none⟩ (.string ⟨tx2.toArray⟩)) = w6 at HR6 HC6 HT6 HF6 HK6 ⊢
    go_step3
    go_wp2_with fail
    go_loopg [7] (ts.length + 1) (fun gh iv wr => ∃ (b : Bool) (k1 : Nat) (x : Tsk) (rem : Nat → Bool), iv = .bool b ∧ lpM ts.length k1 b ≤ gh ∧ k1 ≤ ts.length ∧ LpRel ts k k1 x rem b ∧ wr.heap[R]? = some (rdO A ts.length cap k1 e) ∧ wr.heap[C0]? = some (tskO ⟨⟨#[]⟩, 0, 0, 0, 0, 0, 0⟩) ∧ wr.heap[C0 + 1]? = some (tskO x) ∧ Flds wr (C0 + 1) M B rem ∧ Keeps [R] w wr)
    case atStart => exact ⟨b, k2, _, _, rfl, by unfold lpM; split <;> omega, HST.out.1, HST.out.2, HR6.out, HC6.out, HT6.out, HF6.out, HK6.out⟩
    case round =>
      obtain ⟨b, k1, x, rem, rfl, hgh, hk1, hrel, hR7, hC7, hT7, hF7, hK7⟩ := hrel
      have HREL := Lib.hid hrel
      have HR7 := Lib.hid hR7
      have HC7 := Lib.hid hC7
      have HT7 := Lib.hid hT7
      have HF7 := Lib.hid hF7
      have HK7 := Lib.hid hK7
      have HGH := Lib.hid hgh
      clear hrel hR7 hC7 hT7 hF7 hK7 hgh HR6 HC6 HT6 HF6 HK6 HST
      cases b with
      | false =>
        obtain ⟨t0, t1, t2, t3, t4, t5, t6, -, -, -, -, -, -, -⟩ := facts7 HT7.out
        obtain ⟨c0, c1, c2, c3, c4, c5, c6, cf0, cf1, cf2, cf3, cf4, cf5, cf6⟩ := facts7 HC7.out
        go_wp2
        refine bodyPost_ret (v := .tuple #[tskV x, .bool false]) (by simp [results, Tryd.results32, go_sem, tskV, c0, c1, c2, c3, c4, c5, c6]) rfl ?_
        exact ⟨x, none, k1, rfl, by simp, HREL.out, hk1, put7_blk HR7.out (by omega) _ _ _ _ _ _ _, put7_keeps HK7.out (by have := HC.out; omega) _ _ _ _ _ _ _⟩
      | true =>
        obtain ⟨hAR, hMR, hBR, hC0R, hC1R⟩ := HNR.out
        have HTk7 := Lib.hid (HTW.out.keeps HK7.out hAR)
        clear hAR hMR hBR hC0R hC1R
        go_wp2_with fail
        refine (ends_any R A cap k1 e ts _ HR7.out HTk7.out).mono ?_
        rintro r w8 ⟨rfl, K8⟩
        have HR8 := Lib.hid (K8.blk HR7.out (by simp))
        have HTk8 := Lib.hid (HTk7.out.keeps K8 (by simp))
        have HC8 := Lib.hid (K8.blk HC7.out (by simp))
        have HT8 := Lib.hid (K8.blk HT7.out (by simp))
        have HF8 : Hid (Flds w8 (C0 + 1) M B rem) := Lib.hid (HF7.out.keeps K8)
        have HK8 := Lib.hid (HK7.out.trans (K8.mono (by simp)))
        clear HR7 HTk7 HC7 HT7 HF7 HK7 K8
        by_cases hend : ts.length ≤ k1 ∨ (hereT ts k1 e).kind = 4
        · have hE : (decide (ts.length ≤ k1) || (hereT ts k1 e).kind == 4) = true := by simpa using hend
          rw [hE]
          have hfe := fields_end (x := x) (rem := rem) hend
          have HFE := Lib.hid (Eq.trans (show taskL (ts.drop k) = fieldsL (ts.drop k1) x rem from HREL.out) hfe)
          clear hend hE hfe
          have hl0 := runF HF8.out.map (keyOf_key (k := 0) (by decide)) trivial
          have hl1 := runF HF8.out.map (keyOf_key (k := 1) (by decide)) trivial
          have hl5 := runF HF8.out.map (keyOf_key (k := 5) (by decide)) trivial
          rw [mapF_key (by decide)] at hl0 hl1 hl5
          have hnn : ∀ W : World, (binOp .neq 87 .nilFunc .nilFunc).run Tryd.prog W = .ok (.bool false) W := fun _ => by kernel_rfl
          have hnf : ∀ (W : World) (v : Value), (binOp .neq 87 (.func (.func 57) #[] #[v]) .nilFunc).run Tryd.prog W = .ok (.bool true) W := fun _ _ => by kernel_rfl
          have hnp : ∀ (W : World) (v : Value), (binOp .neq 87 (.func (.func 58) #[] #[v]) .nilFunc).run Tryd.prog W = .ok (.bool true) W := fun _ _ => by kernel_rfl
          simp only [keyB, fldV] at hl0 hl1 hl5
          obtain ⟨t0, t1, t2, t3, t4, t5, t6, -, -, -, -, -, -, -⟩ := facts7 HT8.out
          obtain ⟨c0, c1, c2, c3, c4, c5, c6, cf0, cf1, cf2, cf3, cf4, cf5, cf6⟩ := facts7 HC8.out
          cases h0 : rem 0 with
          | true =>
            rw [h0] at hl0
            simp at hl0
            have HFN : Hid (finF x rem = none) := Lib.hid (by simp [finF, h0])
            clear h0 hl1 hl5
            go_wp2
            refine bodyPost_ret (v := .tuple #[tskV x, .bool false]) (by simp [results, Tryd.results32, go_sem, tskV, c0, c1, c2, c3, c4, c5, c6]) rfl ?_
            exact ⟨x, none, k1, rfl, by simp, by rw [HFE.out, HFN.out], hk1, put7_blk HR8.out (by omega) _ _ _ _ _ _ _, put7_keeps HK8.out (by have := HC.out; omega) _ _ _ _ _ _ _⟩
          | false =>
            rw [h0] at hl0
            simp at hl0
            cases h1 : rem 1 with
            | true =>
              rw [h1] at hl1
              simp at hl1
              have HFN : Hid (finF x rem = none) := Lib.hid (by simp [finF, h1])
              clear h0 h1 hl5
              go_wp2
              refine bodyPost_ret (v := .tuple #[tskV x, .bool false]) (by simp [results, Tryd.results32, go_sem, tskV, c0, c1, c2, c3, c4, c5, c6]) rfl ?_
              exact ⟨x, none, k1, rfl, by simp, by rw [HFE.out, HFN.out], hk1, put7_blk HR8.out (by omega) _ _ _ _ _ _ _, put7_keeps HK8.out (by have := HC.out; omega) _ _ _ _ _ _ _⟩
            | false =>
              rw [h1] at hl1
              simp at hl1
              cases h5 : rem 5 with
              | true =>
                rw [h5] at hl5
                simp at hl5
                have HFN : Hid (finF x rem = none) := Lib.hid (by simp [finF, h5])
                clear h0 h1 h5
                go_wp2
                refine bodyPost_ret (v := .tuple #[tskV x, .bool false]) (by simp [results, Tryd.results32, go_sem, tskV, c0, c1, c2, c3, c4, c5, c6]) rfl ?_
                exact ⟨x, none, k1, rfl, by simp, by rw [HFE.out, HFN.out], hk1, put7_blk HR8.out (by omega) _ _ _ _ _ _ _, put7_keeps HK8.out (by have := HC.out; omega) _ _ _ _ _ _ _⟩
              | false =>
                rw [h5] at hl5
                simp at hl5
                by_cases hneg : x.d < 0
                · have HFN : Hid (finF x rem = some { x with d := x.t }) := Lib.hid (by simp [finF, h0, h1, h5, hneg])
                  have tf3 := (facts7 HT8.out).2.2.2.2.2.2.2.2.2.2.1
                  clear h0 h1 h5
                  go_wp2
                  refine bodyPost_ret (v := .tuple #[tskV { x with d := x.t }, .bool true]) (by simp [results, Tryd.results32, go_sem, tskV, c0, c1, c2, c3, c4, c5, c6]) rfl ?_
                  exact ⟨{ x with d := x.t }, some { x with d := x.t }, k1, rfl, by simp, by rw [HFE.out, HFN.out], hk1, put7_blk (blk_set_other HR8.out _ _ (by simp; omega)) (by omega) _ _ _ _ _ _ _, put7_keeps (HK8.out.setCell (C0 + 1) 3 _ (.inr (by have := HC.out; omega))) (by have := HC.out; omega) _ _ _ _ _ _ _⟩
                · have HFN : Hid (finF x rem = some x) := Lib.hid (by simp [finF, h0, h1, h5, hneg])
                  clear h0 h1 h5
                  have hneg2 : 0 ≤ x.d := by omega
                  clear hneg
                  go_wp2
                  refine bodyPost_ret (v := .tuple #[tskV x, .bool true]) (by simp [results, Tryd.results32, go_sem, tskV, c0, c1, c2, c3, c4, c5, c6]) rfl ?_
                  exact ⟨x, some x, k1, rfl, by simp, by rw [HFE.out, HFN.out], hk1, put7_blk HR8.out (by omega) _ _ _ _ _ _ _, put7_keeps HK8.out (by have := HC.out; omega) _ _ _ _ _ _ _⟩
        · have hE : (decide (ts.length ≤ k1) || (hereT ts k1 e).kind == 4) = false := by
            rw [Bool.or_eq_false_iff]
            refine ⟨by simp; omega, by rw [beq_eq_false_iff_ne]; exact fun h => hend (.inr h)⟩
          rw [hE]
          rcases here_drop ts k1 e with ⟨hd, _⟩ | ⟨v, hv, hh⟩
          · rw [List.drop_eq_nil_iff] at hd
            exact absurd (.inl hd) hend
          have hk4 : v.kind ≠ 4 := fun h => hend (.inr (by rw [hh]; exact h))
          have hkl1 := lt_some hv
          clear hend hE
          go_wp2_with fail
          refine (here_any R A cap k1 e ts _ HR8.out HTk8.out).mono ?_
          rintro r w9 ⟨rfl, K9⟩
          have HR9 := Lib.hid (K9.blk HR8.out (by simp))
          have HTk9 := Lib.hid (HTk8.out.keeps K9 (by simp))
          have HC9 := Lib.hid (K9.blk HC8.out (by simp))
          have HT9 := Lib.hid (K9.blk HT8.out (by simp))
          have HF9 : Hid (Flds w9 (C0 + 1) M B rem) := Lib.hid (HF8.out.keeps K9)
          have HK9 := Lib.hid (HK8.out.trans (K9.mono (by simp)))
          clear HR8 HTk8 HC8 HT8 HF8 HK8 K9
          have hvl := HTXT.out v (List.mem_of_getElem? hv)
          rw [hh]
          obtain ⟨kd3, at3, tx3, nu3⟩ := v
          simp only [tkV]
          have HV := Lib.hid hv
          have HH := Lib.hid hh
          have HK4 := Lib.hid hk4
          have hf3 : ∀ W : World, (Instr.field 69 (.agg #[.int .i64 kd3, .int .i64 at3, .string ⟨tx3.toArray⟩, .int .i64 nu3]) 2).run Tryd.prog W = .ok (.string ⟨tx3.toArray⟩) W := fun _ => by kernel_rfl
          have hko : keyOf Tryd.prog 9 (.string ⟨tx3.toArray⟩) = some (.string tx3) := by
            have := WideMaps.keyOf_string_mk (s := ⟨tx3.toArray⟩) Tryd.underlying9 (by simpa [ByteArray.size] using hvl)
            simpa using this
          have hlk := runF HF9.out.map hko trivial
          rw [mapF_word] at hlk
          have HKO := Lib.hid hko
          clear hv hh hk4 hvl hko
          have henn : ∀ W : World, (binOp .eql 87 .nilFunc .nilFunc).run Tryd.prog W = .ok (.bool true) W := fun _ => by kernel_rfl
          have henf : ∀ (W : World) (v : Value), (binOp .eql 87 (.func (.func 57) #[] #[v]) .nilFunc).run Tryd.prog W = .ok (.bool false) W := fun _ _ => by kernel_rfl
          have henp : ∀ (W : World) (v : Value), (binOp .eql 87 (.func (.func 58) #[] #[v]) .nilFunc).run Tryd.prog W = .ok (.bool false) W := fun _ _ => by kernel_rfl
          have hbadl : ∀ (hb : fldI tx3 = none ∨ ∃ i, fldI tx3 = some i ∧ rem i = false), taskL (ts.drop k) = (none, ts.drop k1) := fun hb => (show taskL (ts.drop k) = fieldsL (ts.drop k1) x rem from HREL.out).trans (fields_bad HV.out HK4.out hb)
          have HBAD := Lib.hid hbadl
          clear hbadl
          cases hfi : fldI tx3 with
          | none =>
            rw [hfi] at hlk
            simp at hlk
            have HB1 := Lib.hid (HBAD.out (.inl hfi))
            clear hfi
            obtain ⟨t0, t1, t2, t3, t4, t5, t6, -, -, -, -, -, -, -⟩ := facts7 HT9.out
            obtain ⟨c0, c1, c2, c3, c4, c5, c6, cf0, cf1, cf2, cf3, cf4, cf5, cf6⟩ := facts7 HC9.out
            go_wp2
            refine bodyPost_ret (v := .tuple #[tskV x, .bool false]) (by simp [results, Tryd.results32, go_sem, tskV, c0, c1, c2, c3, c4, c5, c6]) rfl ?_
            exact ⟨x, none, k1, rfl, by simp, HB1.out, hk1, put7_blk HR9.out (by omega) _ _ _ _ _ _ _, put7_keeps HK9.out (by have := HC.out; omega) _ _ _ _ _ _ _⟩
          | some i =>
            have hi6 := (key_fldI hfi).2
            rw [hfi] at hlk
            simp at hlk
            cases hri : rem i with
            | false =>
              rw [hri] at hlk
              simp at hlk
              have HB1 := Lib.hid (HBAD.out (.inr ⟨i, hfi, hri⟩))
              clear hfi hri
              obtain ⟨t0, t1, t2, t3, t4, t5, t6, -, -, -, -, -, -, -⟩ := facts7 HT9.out
              obtain ⟨c0, c1, c2, c3, c4, c5, c6, cf0, cf1, cf2, cf3, cf4, cf5, cf6⟩ := facts7 HC9.out
              go_wp2
              refine bodyPost_ret (v := .tuple #[tskV x, .bool false]) (by simp [results, Tryd.results32, go_sem, tskV, c0, c1, c2, c3, c4, c5, c6]) rfl ?_
              exact ⟨x, none, k1, rfl, by simp, HB1.out, hk1, put7_blk HR9.out (by omega) _ _ _ _ _ _ _, put7_keeps HK9.out (by have := HC.out; omega) _ _ _ _ _ _ _⟩
            | true =>
              rw [hri] at hlk
              simp at hlk
              have HFI := Lib.hid hfi
              have HRI := Lib.hid hri
              obtain ⟨fid, hfv, hfid⟩ : ∃ fid, fldV B i = .func (.func fid) #[] #[.pointer (some ⟨B i, 0, none⟩)] ∧ ((i = 5 ∧ fid = 58) ∨ (i ≠ 5 ∧ fid = 57)) := by
                by_cases h5 : i = 5
                · subst h5; exact ⟨_, rfl, .inl ⟨rfl, rfl⟩⟩
                · exact ⟨_, by unfold fldV; rw [if_neg h5], .inr ⟨h5, rfl⟩⟩
              rw [hfv] at hlk
              have HFID := Lib.hid hfid
              have hq : ∀ (W : World) (v : Value), (binOp .eql 87 (.func (.func fid) #[] #[v]) .nilFunc).run Tryd.prog W = .ok (.bool false) W := fun _ _ => by kernel_rfl
              clear hfv hfid
              clear hfi hri henn henf henp
              go_wp2_with fail
              refine (here_any R A cap k1 e ts _ HR9.out HTk9.out).mono ?_
              rintro r w10 ⟨rfl, K10⟩
              rw [HH.out]
              simp only [tkV]
              have HR10 := Lib.hid (K10.blk HR9.out (by simp))
              have HTk10 := Lib.hid (HTk9.out.keeps K10 (by simp))
              have HC10 := Lib.hid (K10.blk HC9.out (by simp))
              have HT10 := Lib.hid (K10.blk HT9.out (by simp))
              have HF10 : Hid (Flds w10 (C0 + 1) M B rem) := Lib.hid (HF9.out.keeps K10)
              have HK10 := Lib.hid (HK9.out.trans (K10.mono (by simp)))
              clear HR9 HTk9 HC9 HT9 HF9 HK9 K10 hlk hq
              have hmo := mapF_off (B := B) (rem := rem) HFI.out
              have HMO := Lib.hid hmo
              clear hmo
              go_wp2_with (at_delete; refine wpList_delF rfl _ _ rfl M 100 _ (mapF B (offF rem i)) rfl HF10.out.map _ (.string tx3) rfl HKO.out trivial HMO.out.1 (fun k _ hk => HMO.out.2 k hk) ?_; intro w11 hm11 K11; have HM11 := Lib.hid hm11; have HK11 := Lib.hid K11; have hr11 := K11.blk HR10.out (by have := HMB.out.1; simp; omega); obtain ⟨r0, r1, r2, rf0, rf1, rf2⟩ := facts3 hr11; have HR11 := Lib.hid hr11; clear hm11 K11 hr11)
              obtain ⟨hAR, hMR, hBR, hC0R, hC1R⟩ := HNR.out
              have K12 : Keeps [R] w11 (w11.setCell ⟨R, 1, none⟩ (.int .i64 ((k1 : Int) + 1))) := (Keeps.refl _ _).setCell R 1 _ (.inl (by simp))
              have hMne : ∀ b, b < w1.heap.size → b ∉ [M] := fun b hb => by have := HMB.out.1; simp; omega
              have HR12 := Lib.hid (rd_step HR11.out)
              have HC12 := Lib.hid (K12.blk (HK11.out.blk HC10.out (hMne _ (by omega))) hC0R)
              have HT12 := Lib.hid (K12.blk (HK11.out.blk HT10.out (hMne _ (by omega))) hC1R)
              have HF12 := Lib.hid ((HF10.out.turn HM11.out HK11.out).keeps K12 hMR hBR)
              have HK12 := Lib.hid ((HK10.out.andThen HK11.out (by intro g hg; simp at hg; subst hg; have := HMB.out.1; have := HC.out; exact .inr (by omega))).trans K12)
              have HTk12 := Lib.hid (HTW.out.keeps HK12.out hAR)
              clear r0 r1 r2 rf0 rf1 rf2 HR10 HTk10 HC10 HT10 HF10 HK10 HM11 HK11 HR11 K12 HKO HMO hf3
              generalize w11.setCell ⟨R, 1, none⟩ (.int .i64 ((k1 : Int) + 1)) = w12 at HR12 HC12 HT12 HF12 HK12 HTk12 ⊢
              refine (take_both R A cap (k1 + 1) e 3 ts w12 HR12.out HTk12.out (by omega)).mono ?_
              rintro r w13 ⟨b3, k3, rfl, hb3, hR13, K13⟩
              have HR13 := Lib.hid hR13
              have HC13 := Lib.hid (K13.blk HC12.out hC0R)
              have HT13 := Lib.hid (K13.blk HT12.out hC1R)
              have HF13 := Lib.hid (HF12.out.keeps K13 hMR hBR)
              have HK13 := Lib.hid (HK12.out.trans K13)
              clear hR13 K13 HR12 HTk12 HC12 HT12 HF12 HK12
              cases b3 with
              | false =>
                obtain ⟨hk3, rfl⟩ : (hereT ts (k1 + 1) e).kind ≠ 3 ∧ k3 = k1 + 1 := by
                  rcases hb3 with ⟨h, _, _⟩ | ⟨_, h1, h2⟩
                  · cases h
                  · exact ⟨h1, h2⟩
                have HB1 : Hid (taskL (ts.drop k) = (none, ts.drop (k1 + 1))) := Lib.hid ((show taskL (ts.drop k) = fieldsL (ts.drop k1) x rem from HREL.out).trans (fields_eq HV.out HK4.out HFI.out HRI.out hk3))
                clear hk3 hb3 hAR hMR hBR hC0R hC1R hMne
                obtain ⟨t0, t1, t2, t3, t4, t5, t6, -, -, -, -, -, -, -⟩ := facts7 HT13.out
                obtain ⟨c0, c1, c2, c3, c4, c5, c6, cf0, cf1, cf2, cf3, cf4, cf5, cf6⟩ := facts7 HC13.out
                go_wp2
                refine bodyPost_ret (v := .tuple #[tskV x, .bool false]) (by simp [results, Tryd.results32, go_sem, tskV, c0, c1, c2, c3, c4, c5, c6]) rfl ?_
                exact ⟨x, none, k1 + 1, rfl, by simp, HB1.out, (by omega), put7_blk HR13.out (by omega) _ _ _ _ _ _ _, put7_keeps HK13.out (by have := HC.out; omega) _ _ _ _ _ _ _⟩
              | true =>
                obtain ⟨hk3, rfl⟩ : (hereT ts (k1 + 1) e).kind = 3 ∧ k3 = k1 + 1 + 1 := by
                  rcases hb3 with ⟨_, h1, h2⟩ | ⟨h, _, _⟩
                  · exact ⟨h1, h2⟩
                  · cases h
                have HK3 := Lib.hid hk3
                have K14 : Keeps [] w13 (w13.alloc (.cells #[.int .i64 0, .int .i64 0, .string ⟨#[]⟩, .int .i64 0] 69)) := (Keeps.refl _ _).alloc _
                have hx14 := blk_new w13 (.cells #[.int .i64 0, .int .i64 0, .string ⟨#[]⟩, .int .i64 0] 69)
                obtain ⟨X, hX⟩ : ∃ X, X = w13.heap.size := ⟨_, rfl⟩
                rw [← hX] at hx14
                have hXR : X ∉ [R] := by have := blk_lt HR13.out; simp; omega
                have hXC : C0 + 1 < X := by have := blk_lt HT13.out; omega
                have hXw : w.heap.size ≤ X := by have := HK13.out.size; omega
                have HXE := Lib.hid hX
                have HR14 := Lib.hid (K14.blk HR13.out (by simp))
                have HC14 := Lib.hid (K14.blk HC13.out (by simp))
                have HT14 := Lib.hid (K14.blk HT13.out (by simp))
                have HF14 : Hid (Flds _ (C0 + 1) M B (offF rem i)) := Lib.hid (HF13.out.keeps K14)
                have HK14 := Lib.hid (HK13.out.trans (K14.mono (by simp)))
                have HX14 := Lib.hid hx14
                have HXM : Hid (M ≠ X ∧ ∀ j, j < 6 → B j ≠ X) := Lib.hid ⟨by have := HF13.out.map.lt; omega, fun j hj => by
                  have : B j < w13.heap.size := by
                    by_cases h5 : j = 5
                    · subst h5; exact blk_lt HF13.out.boxp
                    · exact blk_lt (HF13.out.box j (by omega))
                  omega⟩
                clear hk3 hb3 hx14 hX K14 HR13 HC13 HT13 HF13 HK13 hAR hMR hBR hC0R hC1R hMne
                go_wp2_with fail
                rw [← HXE.out]
                generalize (w13.alloc (.cells #[.int .i64 0, .int .i64 0, .string ⟨#[]⟩, .int .i64 0] 69)) = w14 at HR14 HC14 HT14 HF14 HK14 HX14 ⊢
                obtain ⟨hAR, hMR, hBR, hC0R, hC1R⟩ := HNR.out
                refine (take_both R A cap (k1 + 1 + 1) e 2 ts w14 HR14.out (HTW.out.keeps HK14.out hAR) (by omega)).mono ?_
                rintro r w15 ⟨b4, k4, rfl, hb4, hR15, K15⟩
                have HR15 := Lib.hid hR15
                have HC15 := Lib.hid (K15.blk HC14.out hC0R)
                have HT15 := Lib.hid (K15.blk HT14.out hC1R)
                have HF15 := Lib.hid (HF14.out.keeps K15 hMR hBR)
                have HK15 := Lib.hid (HK14.out.trans K15)
                have HX15 := Lib.hid (K15.blk HX14.out hXR)
                have HB4 := Lib.hid hb4
                clear hR15 K15 hb4 HR14 HC14 HT14 HF14 HK14 HX14 hAR hMR hBR hC0R hC1R
                obtain ⟨z, hz⟩ : ∃ z, hereT ts (k1 + 1 + 1) e = z := ⟨_, rfl⟩
                rw [hz]
                have HZ := Lib.hid hz
                obtain ⟨kd5, at5, tx5, nu5⟩ := z
                simp only [tkV]
                obtain ⟨y0, y1, y2, y3, yf0, yf1, yf2, yf3⟩ := facts4 HX15.out
                clear hz
                rcases HFID.out with ⟨rfl, rfl⟩ | ⟨h5, rfl⟩
                · go_wp2_with fail
                  have K16 : Keeps [X] w15 ((((w15.setCell ⟨X, 0, none⟩ (.int .i64 kd5)).setCell ⟨X, 1, none⟩ (.int .i64 at5)).setCell ⟨X, 2, none⟩ (.string ⟨tx5.toArray⟩)).setCell ⟨X, 3, none⟩ (.int .i64 nu5)) := ((((Keeps.refl _ _).setCell X 0 _ (.inl (by simp))).setCell X 1 _ (.inl (by simp))).setCell X 2 _ (.inl (by simp))).setCell X 3 _ (.inl (by simp))
                  have HR16 := Lib.hid (K16.blk HR15.out (by simp at hXR; simp; omega))
                  have HC16 := Lib.hid (K16.blk HC15.out (by simp; omega))
                  have HT16 := Lib.hid (K16.blk HT15.out (by simp; omega))
                  have HF16 := Lib.hid (HF15.out.keeps K16 (by simpa using HXM.out.1) (fun j hj => by simpa using HXM.out.2 j hj))
                  have HK16 := Lib.hid (HK15.out.andThen K16 (by intro g hg; simp at hg; subst hg; exact .inr hXw))
                  clear y0 y1 y2 y3 yf0 yf1 yf2 yf3 K16 HR15 HC15 HT15 HF15 HK15 HX15
                  generalize ((((w15.setCell ⟨X, 0, none⟩ (.int .i64 kd5)).setCell ⟨X, 1, none⟩ (.int .i64 at5)).setCell ⟨X, 2, none⟩ (.string ⟨tx5.toArray⟩)).setCell ⟨X, 3, none⟩ (.int .i64 nu5)) = w16 at HR16 HC16 HT16 HF16 HK16 ⊢
                  refine (setAny5 HF16.out HT16.out _).mono ?_
                  rintro r w17 ⟨rfl, rfl⟩
                  have hstp := lp_step HV.out HK4.out HFI.out HRI.out HK3.out HZ.out HB4.out HREL.out
                  have HSTP := Lib.hid hstp
                  have hT17 := tsk_set HT16.out (nu5 : Int) 5 (by omega)
                  have K17 : Keeps [C0 + 1] w16 (w16.setCell ⟨C0 + 1, 5 + 1, none⟩ (.int .i64 nu5)) := (Keeps.refl _ _).setCell _ _ _ (.inl (by simp))
                  have HR17 := Lib.hid (K17.blk HR16.out (by simp; omega))
                  have HC17 := Lib.hid (K17.blk HC16.out (by simp))
                  have HT17 := Lib.hid hT17
                  have HF17 := Lib.hid (HF16.out.keeps K17 HNC.out.1 HNC.out.2)
                  have HK17 := Lib.hid (HK16.out.andThen K17 (by intro g hg; simp at hg; subst hg; have := HC.out; exact .inr (by omega)))
                  clear hstp hT17 K17 HR16 HC16 HT16 HF16 HK16
                  generalize w16.setCell ⟨C0 + 1, 5 + 1, none⟩ (.int .i64 nu5) = w17 at HR17 HC17 HT17 HF17 HK17 ⊢
                  go_wp2
                  go_roundg (ts.length - k1)
                  case rel => exact ⟨b4, k4, _, _, rfl, HSTP.out.1, HSTP.out.2.1, HSTP.out.2.2, HR17.out, HC17.out, HT17.out, HF17.out, HK17.out⟩
                  case measure =>
                    have := HGH.out
                    rw [lpM_true] at this
                    omega
                · go_wp2_with fail
                  have K16 : Keeps [X] w15 ((((w15.setCell ⟨X, 0, none⟩ (.int .i64 kd5)).setCell ⟨X, 1, none⟩ (.int .i64 at5)).setCell ⟨X, 2, none⟩ (.string ⟨tx5.toArray⟩)).setCell ⟨X, 3, none⟩ (.int .i64 nu5)) := ((((Keeps.refl _ _).setCell X 0 _ (.inl (by simp))).setCell X 1 _ (.inl (by simp))).setCell X 2 _ (.inl (by simp))).setCell X 3 _ (.inl (by simp))
                  have HR16 := Lib.hid (K16.blk HR15.out (by simp at hXR; simp; omega))
                  have HC16 := Lib.hid (K16.blk HC15.out (by simp; omega))
                  have HT16 := Lib.hid (K16.blk HT15.out (by simp; omega))
                  have HF16 := Lib.hid (HF15.out.keeps K16 (by simpa using HXM.out.1) (fun j hj => by simpa using HXM.out.2 j hj))
                  have HK16 := Lib.hid (HK15.out.andThen K16 (by intro g hg; simp at hg; subst hg; exact .inr hXw))
                  clear y0 y1 y2 y3 yf0 yf1 yf2 yf3 K16 HR15 HC15 HT15 HF15 HK15 HX15
                  generalize ((((w15.setCell ⟨X, 0, none⟩ (.int .i64 kd5)).setCell ⟨X, 1, none⟩ (.int .i64 at5)).setCell ⟨X, 2, none⟩ (.string ⟨tx5.toArray⟩)).setCell ⟨X, 3, none⟩ (.int .i64 nu5)) = w16 at HR16 HC16 HT16 HF16 HK16 ⊢
                  refine (setAny HF16.out HT16.out hi6 h5 _).mono ?_
                  rintro r w17 ⟨rfl, rfl⟩
                  have hstp := lp_step HV.out HK4.out HFI.out HRI.out HK3.out HZ.out HB4.out HREL.out
                  have HSTP := Lib.hid hstp
                  have hT17 := tsk_set HT16.out (nu5 : Int) i (by omega)
                  have K17 : Keeps [C0 + 1] w16 (w16.setCell ⟨C0 + 1, i + 1, none⟩ (.int .i64 nu5)) := (Keeps.refl _ _).setCell _ _ _ (.inl (by simp))
                  have HR17 := Lib.hid (K17.blk HR16.out (by simp; omega))
                  have HC17 := Lib.hid (K17.blk HC16.out (by simp))
                  have HT17 := Lib.hid hT17
                  have HF17 := Lib.hid (HF16.out.keeps K17 HNC.out.1 HNC.out.2)
                  have HK17 := Lib.hid (HK16.out.andThen K17 (by intro g hg; simp at hg; subst hg; have := HC.out; exact .inr (by omega)))
                  clear hstp hT17 K17 HR16 HC16 HT16 HF16 HK16
                  generalize w16.setCell ⟨C0 + 1, i + 1, none⟩ (.int .i64 nu5) = w17 at HR17 HC17 HT17 HF17 HK17 ⊢
                  go_wp2
                  go_roundg (ts.length - k1)
                  case rel => exact ⟨b4, k4, _, _, rfl, HSTP.out.1, HSTP.out.2.1, HSTP.out.2.2, HR17.out, HC17.out, HT17.out, HF17.out, HK17.out⟩
                  case measure =>
                    have := HGH.out
                    rw [lpM_true] at this
                    omega
  · have htb : (tx1 == [116, 97, 115, 107]) = false := by simpa using ht
    have htl : taskL (ts.drop k) = (none, ts.drop k) := by
      cases hd : ts.drop k with
      | nil => rfl
      | cons u l =>
        have hu : ts[k]? = some u := by
          have := congrArg (fun l => l[0]?) hd
          simpa using this
        have := HE.out
        unfold hereT at this
        rw [hu] at this
        simp at this
        subst this
        simp [taskL, taskW, ht]
    have HTL := Lib.hid htl
    clear htl ht
    obtain ⟨t0, t1, t2, t3, t4, t5, t6, -, -, -, -, -, -, -⟩ := facts7 HT3.out
    obtain ⟨c0, c1, c2, c3, c4, c5, c6, cf0, cf1, cf2, cf3, cf4, cf5, cf6⟩ := facts7 HC3.out
    simp only [x0] at t0 t1 t2 t3 t4 t5 t6
    go_wp2
    refine bodyPost_ret (v := .tuple #[tskV x0, .bool false]) (by simp [results, Tryd.results32, go_sem, tskV, x0, c0, c1, c2, c3, c4, c5, c6]) rfl ?_
    exact ⟨x0, none, k, rfl, by simp, HTL.out, hk, put7_blk HR3.out (by omega) _ _ _ _ _ _ _, put7_keeps (HK3.out.mono (by simp)) (by have := HC.out; omega) _ _ _ _ _ _ _⟩
end Go.Proofs.YtefdcjmfbjlinaaDoor.Sc
