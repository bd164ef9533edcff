/- task's CheckAll: whether a set may be. -/
import Derived.Test.YtefdcjmfbjlinaaDoorFirst
import Derived.Maps.Own
import Derived.Maps.OwnOps
import Derived.Laws.EntriesVeiled
import Derived.Maps.Views
import Derived.Deep.LoopGhost
namespace Go.Proofs.YtefdcjmfbjlinaaDoor.Sc
open Go.RowKit Go.Shelf Go.Maps

/-- A slice of tasks, read. -/
def RowTsk (w : World) (A : Option Addr) (xs : List Tsk) : Prop := ∀ i x, xs[i]? = some x → ∃ b o, A = some ⟨b, o, none⟩ ∧ ∀ r u, (cellsTsk x)[r]? = some u → w.cell? ⟨b, o + i * 7 + r, none⟩ = some u
theorem RowTsk.keeps {w w' : World} {A : Option Addr} {xs : List Tsk} (h : RowTsk w A xs) (k : Keeps [] w w') : RowTsk w' A xs := by
  intro i x hx
  obtain ⟨b, o, h1, h3⟩ := h i x hx
  refine ⟨b, o, h1, fun r u hu => ?_⟩
  have := h3 r u hu
  rw [← this]
  exact World.cell?_of_block (k.block _ (World.block_lt_of_cell? _ _ this) (by simp))

/-- What CheckAll tells from a place on; those ahead of it: pre. -/
def allFrom (pre : List Tsk) : List Tsk → Int × Int
  | [] => ((pre.length : Nat), 0)
  | x :: xs => if checkE x ≠ 0 then ((pre.length : Nat), checkE x) else
      if pre.any (fun y => decide (y.nm = x.nm)) || pre.any (fun y => decide (y.p = x.p)) then ((pre.length : Nat), 13) else allFrom (pre ++ [x]) xs
def checkAllL (l : List Tsk) : Int × Int := if l.length = 0 ∨ 1024 < l.length then (0, 14) else allFrom [] l

theorem law9 : Keyed Tryd.prog 9 := string_keyed Tryd.underlying9
theorem law3 : Keyed Tryd.prog 3 := int_keyed Tryd.underlying3
theorem zero3 (w : World) : (zeroValue 3).run Tryd.prog w = .ok (.int .i64 0) w := by kernel_rfl
/-- A map of the call's own, from keys of type kt to numbers of type et: it tells f. -/
def IsMapI (w : World) (kt et : Nat) (b n : Nat) (f : Lit → Int) : Prop :=
  ∃ D : DataW Unit, w.ownsMap Tryd.prog kt (plainElem Tryd.prog et) b n D ∧ IsMap D ∧ ∀ kl, WideAt.IsKeyLit kl → D.atKey kl (.lit (.int .i64 0)) = .lit (.int .i64 (f kl))
theorem IsMapI.made (w : World) (kt et : Nat) : IsMapI (w.alloc (.map #[] 0)) kt et w.heap.size 0 (fun _ => 0) :=
  ⟨_, World.ownsMap_made _ _ _ _, ⟨[], rfl⟩, fun _ _ => rfl⟩
theorem IsMapI.lt {w : World} {kt et b n : Nat} {f : Lit → Int} (h : IsMapI w kt et b n f) : b < w.heap.size := by
  obtain ⟨D, h1, _⟩ := h
  exact h1.lt
theorem IsMapI.blk {w w' : World} {kt et b n : Nat} {f : Lit → Int} (h : IsMapI w kt et b n f) (hb : w'.heap[b]? = w.heap[b]?) : IsMapI w' kt et b n f := by
  obtain ⟨D, ⟨es, clock, h1, h2⟩, h3⟩ := h
  exact ⟨D, ⟨es, clock, hb.trans h1, h2⟩, h3⟩
theorem IsMapI.keeps {w w' : World} {kt et b n : Nat} {f : Lit → Int} {F : List Nat} (h : IsMapI w kt et b n f) (k : Keeps F w w') (hb : b ∉ F) : IsMapI w' kt et b n f := h.blk (k.block b h.lt hb)

theorem lookI {kt et : Nat} (law : Keyed Tryd.prog kt) (het : Tryd.prog.underlying et = some (.int .i64)) (hz : ∀ w, (zeroValue et).run Tryd.prog w = .ok (.int .i64 0) w)
    (w : World) {ops : Array Oper} {rest : List Oper} {o : Oper} {a : Act} {Q : Exit → Act → World → Prop} (hg : o.guard = none) (m x : Operand) (t : TypeId) (hop : o.op = Op.lookup t m x false) (ht : Tryd.prog.underlying t = some (.map kt et))
    (b n : Nat) (f : Lit → Int) (hm : a.eval m = .map (some b)) (h : IsMapI w kt et b n f) (key : Value) (kl : Lit) (hx : a.eval x = key) (hk : keyOf Tryd.prog kt key = some kl) (hkl : WideAt.IsKeyLit kl) (c0 : Int) (hc0 : f kl = c0)
    (hK : wpList Tryd.prog ops Q rest (a.put o.dst (.int .i64 c0)) w) : wpList Tryd.prog ops Q (o :: rest) a w := by
  obtain ⟨D, h1, h2, h3⟩ := h
  refine wpList_lookup_own_int w hg m x t hop kt et .i64 law ht het (hz w) b n D hm h1 key kl hx hk ?_
  intro c hc _
  rw [h3 kl hkl, hc0] at hc
  injection hc with hc
  injection hc with _ hc
  rw [← hc]
  exact hK
set_option maxRecDepth 100000 in
theorem runI {kt et : Nat} (law : Keyed Tryd.prog kt) (het : Tryd.prog.underlying et = some (.int .i64)) (hz : ∀ w, (zeroValue et).run Tryd.prog w = .ok (.int .i64 0) w)
    {w : World} {t : TypeId} (ht : Tryd.prog.underlying t = some (.map kt et)) {b n : Nat} {f : Lit → Int} (h : IsMapI w kt et b n f) {key : Value} {kl : Lit} (hk : keyOf Tryd.prog kt key = some kl) (hkl : WideAt.IsKeyLit kl) {c0 : Int} (hc0 : f kl = c0) :
    (Instr.lookup t (.map (some b)) key false).run Tryd.prog w = .ok (.int .i64 c0) w := by
  obtain ⟨D, h1, h2, h3⟩ := h
  obtain ⟨c, hr, hc, _⟩ := h1.lookup_int law ht het (hz w) hk
  rw [h3 kl hkl, hc0] at hc
  injection hc with hc
  injection hc with _ hc
  rw [hc]
  exact hr
theorem putI {kt et : Nat} (law : Keyed Tryd.prog kt) (het : Tryd.prog.underlying et = some (.int .i64))
    (w : World) {ops : Array Oper} {rest : List Oper} {o : Oper} {a : Act} {Q : Exit → Act → World → Prop} (hg : o.guard = none) (m x v : Operand) (t : TypeId) (hop : o.op = Op.mapUpdate t m x v) (ht : Tryd.prog.underlying t = some (.map kt et))
    (b n : Nat) (f : Lit → Int) (hm : a.eval m = .map (some b)) (h : IsMapI w kt et b n f) (hn : n < maxLen) (key : Value) (c : Int) (kl : Lit) (hx : a.eval x = key) (hv : a.eval v = .int .i64 c) (hk : keyOf Tryd.prog kt key = some kl) (hkl : WideAt.IsKeyLit kl)
    (hc : (Lit.int .i64 c).wf = true) (f' : Lit → Int) (hf : f' kl = c) (hf' : ∀ k, k ≠ kl → f' k = f k)
    (hK : ∀ w', IsMapI w' kt et b (n + 1) f' → Keeps [b] w w' → wpList Tryd.prog ops Q rest (a.put o.dst undef) w') : wpList Tryd.prog ops Q (o :: rest) a w := by
  obtain ⟨D, h1, h2, h3⟩ := h
  refine wpList_mapUpdate_own w hg m x v t hop kt et law ht _ b n D hm h1 hn key (.int .i64 c) kl hx hv hk _ [] (plainElem_int het hc) ?_
  intro w' h' hg'
  refine hK w' ⟨_, h', h'.isMap, fun k hkk => ?_⟩ ⟨hg'.os, hg'.tape, hg'.output, hg'.size, fun j hj hn => hg'.block j hj (by simpa using hn)⟩
  by_cases e : k = kl
  · subst e
    rw [atKey_put_same h2 hkl, hf]
  · rw [atKey_put_other e, h3 k hkk, hf' k e]

/-- How many tasks ahead bear this name; this urgency. -/
def cntN (pre : List Tsk) : Lit → Int
  | .string l => ((pre.countP fun y => decide (y.nm.data.toList = l)) : Nat)
  | _ => 0
def cntP (pre : List Tsk) : Lit → Int
  | .int .i64 p => ((pre.countP fun y => decide (y.p = p)) : Nat)
  | _ => 0
theorem cntN_put (pre : List Tsk) (x : Tsk) (k : Lit) (h : k ≠ .string x.nm.data.toList) : cntN (pre ++ [x]) k = cntN pre k := by
  unfold cntN
  split
  · rename_i l
    have : ¬ x.nm.data.toList = l := fun e => h (by rw [e])
    simp [List.countP_append, this]
  · rfl
theorem cntP_put (pre : List Tsk) (x : Tsk) (k : Lit) (h : k ≠ .int .i64 x.p) : cntP (pre ++ [x]) k = cntP pre k := by
  unfold cntP
  split
  · rename_i p
    have : ¬ x.p = p := fun e => h (by rw [e])
    simp [List.countP_append, this]
  · rfl
theorem cntN_same (pre : List Tsk) (x : Tsk) : cntN (pre ++ [x]) (.string x.nm.data.toList) = cntN pre (.string x.nm.data.toList) + 1 := by
  simp [cntN, List.countP_append]
theorem cntP_same (pre : List Tsk) (x : Tsk) : cntP (pre ++ [x]) (.int .i64 x.p) = cntP pre (.int .i64 x.p) + 1 := by
  simp [cntP, List.countP_append]
theorem cntN_pos (pre : List Tsk) (x : Tsk) : pre.any (fun y => decide (y.nm = x.nm)) = decide (1 < cntN pre (.string x.nm.data.toList) + 1) := by
  rw [Bool.eq_iff_iff]
  simp only [cntN, List.any_eq_true, decide_eq_true_eq]
  constructor
  · rintro ⟨y, hy, e⟩
    have : 0 < pre.countP fun y => decide (y.nm.data.toList = x.nm.data.toList) := List.countP_pos_iff.2 ⟨y, hy, by simp [e]⟩
    refine decide_eq_true ?_
    show (1 : Int) < ((pre.countP fun y => decide (y.nm.data.toList = x.nm.data.toList) : Nat) : Int) + 1
    omega
  · intro h
    replace h : (1 : Int) < ((pre.countP fun y => decide (y.nm.data.toList = x.nm.data.toList) : Nat) : Int) + 1 := of_decide_eq_true h
    have : 0 < pre.countP fun y => decide (y.nm.data.toList = x.nm.data.toList) := by omega
    obtain ⟨y, hy, e⟩ := List.countP_pos_iff.1 this
    refine ⟨y, hy, ?_⟩
    simp at e
    cases h1 : y.nm; cases h2 : x.nm
    rw [h1, h2] at e
    simpa using e
theorem cntP_pos (pre : List Tsk) (x : Tsk) : pre.any (fun y => decide (y.p = x.p)) = decide (1 < cntP pre (.int .i64 x.p) + 1) := by
  rw [Bool.eq_iff_iff]
  simp only [cntP, List.any_eq_true, decide_eq_true_eq]
  constructor
  · rintro ⟨y, hy, e⟩
    have : 0 < pre.countP fun y => decide (y.p = x.p) := List.countP_pos_iff.2 ⟨y, hy, by simp [e]⟩
    refine decide_eq_true ?_
    show (1 : Int) < ((pre.countP fun y => decide (y.p = x.p) : Nat) : Int) + 1
    omega
  · intro h
    replace h : (1 : Int) < ((pre.countP fun y => decide (y.p = x.p) : Nat) : Int) + 1 := of_decide_eq_true h
    have : 0 < pre.countP fun y => decide (y.p = x.p) := by omega
    obtain ⟨y, hy, e⟩ := List.countP_pos_iff.1 this
    exact ⟨y, hy, by simpa using e⟩
theorem cntN_le (pre : List Tsk) (k : Lit) : 0 ≤ cntN pre k ∧ cntN pre k ≤ pre.length := by
  unfold cntN
  split
  · have := List.countP_le_length (p := fun y : Tsk => decide (y.nm.data.toList = by assumption)) (l := pre)
    omega
  · omega
theorem cntP_le (pre : List Tsk) (k : Lit) : 0 ≤ cntP pre k ∧ cntP pre k ≤ pre.length := by
  unfold cntP
  split
  · rename_i p
    have := List.countP_le_length (p := fun y : Tsk => decide (y.p = p)) (l := pre)
    omega
  · omega

set_option maxHeartbeats 2000000 in
set_option maxRecDepth 100000 in
theorem checkAll_any (A : Option Addr) (cap : Nat) (xs : List Tsk) (w : World) (hsz : ∀ x ∈ xs, x.nm.size ≤ 140737488351232) (hwf : ∀ x ∈ xs, (Lit.int .i64 x.p).wf = true) (hr : RowTsk w A xs) :
    Calls Tryd.prog 34 #[.slice A xs.length cap] w fun e w' => e = .returned (.tuple #[.int .i64 (checkAllL xs).1, .int .i64 (checkAllL xs).2]) ∧ Keeps [] w w' := by
  have hmm := @run_makeMap Tryd.prog
  by_cases h0 : xs.length = 0
  · have t0 : ((xs.length : Int) == 0) = true := by rw [beq_iff_eq]; omega
    have hc : checkAllL xs = (0, 14) := by unfold checkAllL; rw [if_pos (.inl h0)]
    rw [hc]
    clear hc hmm
    go_enter Tryd.func34, Tryd.ntmps34
    go_wp2
    go_ret2
    exact ⟨rfl, Keeps.refl _ _⟩
  · have t0 : ((xs.length : Int) == 0) = false := by rw [beq_eq_false_iff_ne]; omega
    by_cases h1 : 1024 < xs.length
    · have t1 : (1024 : Int) < (xs.length : Int) := by omega
      have hc : checkAllL xs = (0, 14) := by unfold checkAllL; rw [if_pos (.inr h1)]
      rw [hc]
      clear hc hmm
      go_enter Tryd.func34, Tryd.ntmps34
      go_wp2
      go_ret2
      exact ⟨rfl, Keeps.refl _ _⟩
    · have t1 : decide ((1024 : Int) < (xs.length : Int)) = false := by simp; omega
      have hc : checkAllL xs = allFrom [] xs := by unfold checkAllL; rw [if_neg (by omega)]
      rw [hc]
      have HR := Lib.hid hr
      have HSZ := Lib.hid hsz
      have HWF := Lib.hid hwf
      have H1 := Lib.hid h1
      clear hc hr hsz hwf h1
      go_enter Tryd.func34, Tryd.ntmps34
      go_wp2_with fail
      obtain ⟨B1, hB1⟩ : ∃ B1, B1 = w.heap.size := ⟨_, rfl⟩
      have hm1 : IsMapI ((w.alloc (.map #[] 0)).alloc (.map #[] 0)) 9 3 B1 0 (fun _ => 0) := by
        have h := IsMapI.made w 9 3
        rw [← hB1] at h
        exact h.keeps ((Keeps.refl [] _).alloc _) (by simp)
      have hm2 : IsMapI ((w.alloc (.map #[] 0)).alloc (.map #[] 0)) 3 3 (w.heap.size + 1) 0 (fun _ => 0) := by
        have h := IsMapI.made (w.alloc (.map #[] 0)) 3 3
        rwa [show (w.alloc (.map #[] 0)).heap.size = w.heap.size + 1 from by simp] at h
      have K0 : Keeps [] w ((w.alloc (.map #[] 0)).alloc (.map #[] 0)) := ((Keeps.refl _ _).alloc _).alloc _
      go_loopg [21] (xs.length) (fun gh iv wr => ∃ i : Nat, xs.length - i ≤ gh ∧ iv = .int .i64 i ∧ i ≤ xs.length ∧ allFrom [] xs = allFrom (xs.take i) (xs.drop i) ∧ IsMapI wr 9 3 w.heap.size i (cntN (xs.take i)) ∧ IsMapI wr 3 3 (w.heap.size + 1) i (cntP (xs.take i)) ∧ Keeps [] w wr)
      case atStart =>
        refine ⟨0, by omega, rfl, by omega, by simp, ?_, ?_, K0⟩
        · have e : cntN (xs.take 0) = fun _ => 0 := by funext k; unfold cntN; split <;> simp
          rw [e, ← hB1]; exact hm1
        · have e : cntP (xs.take 0) = fun _ => 0 := by funext k; unfold cntP; split <;> simp
          rw [e]; exact hm2
      case round =>
        obtain ⟨i, hgh, rfl, hil, hall, hn1, hn2, hK⟩ := hrel
        have HALL := Lib.hid hall
        have HN1 := Lib.hid hn1
        have HN2 := Lib.hid hn2
        have HK := Lib.hid hK
        clear hall hn1 hn2 hK hm1 hm2 K0
        by_cases hlt : i < xs.length
        · obtain ⟨x, hx⟩ : ∃ x, xs[i]? = some x := ⟨xs[i], by simp [hlt]⟩
          have hmem := List.mem_of_getElem? hx
          obtain ⟨b0, o0, ha, hc⟩ := (HR.out.keeps HK.out) i x hx
          subst ha
          have c0 : wr.cell? ⟨b0, o0 + i * 7, none⟩ = some (.string x.nm) := hc 0 _ rfl
          have c1 := hc 1 _ rfl
          have c2 := hc 2 _ rfl
          have c3 := hc 3 _ rfl
          have c4 := hc 4 _ rfl
          have c5 := hc 5 _ rfl
          have c6 := hc 6 _ rfl
          have HX := Lib.hid hx
          have HMEM := Lib.hid hmem
          have hlt' : (i : Int) < (xs.length : Int) := by omega
          have hile : (i : Int) ≤ 1024 := by have := H1.out; omega
          clear hc hx hmem
          go_wp2_with fail
          have Kt : Keeps [] wr (wr.alloc (.cells (cellsTsk x).toArray 29)) := (Keeps.refl _ _).alloc _
          have ht := blk_new wr (.cells (cellsTsk x).toArray 29)
          have hn1 := HN1.out.keeps Kt (by simp)
          have hn2 := HN2.out.keeps Kt (by simp)
          have hK1 := HK.out.trans Kt
          have hnw : w.heap.size + 2 ≤ wr.heap.size := by have := HN2.out.lt; omega
          clear c0 c1 c2 c3 c4 c5 c6 HN1 HN2 HK Kt
          simp only [cellsTsk] at ht hn1 hn2 hK1
          obtain ⟨bt, hbt⟩ : ∃ bt, bt = wr.heap.size := ⟨_, rfl⟩
          generalize (wr.alloc (.cells #[.string x.nm, .int .i64 x.c, .int .i64 x.t, .int .i64 x.d, .int .i64 x.j, .int .i64 x.q, .int .i64 x.p] 29)) = w1 at ht hn1 hn2 hK1 ⊢
          have HT := Lib.hid ht
          have HN1 := Lib.hid hn1
          have HN2 := Lib.hid hn2
          have HK := Lib.hid hK1
          clear ht hn1 hn2 hK1
          refine (check_any x _ (HSZ.out x HMEM.out)).mono ?_
          rintro e w2 ⟨rfl, K2⟩
          have hn1 := HN1.out.keeps K2 (by simp)
          have hn2 := HN2.out.keeps K2 (by simp)
          have hK2 := HK.out.trans K2
          have ht2 := K2.blk HT.out (by simp)
          clear HN1 HN2 HK HT K2
          have HN1 := Lib.hid hn1
          have HN2 := Lib.hid hn2
          have HK := Lib.hid hK2
          have HT := Lib.hid ht2
          clear hn1 hn2 hK2
          have c0 : w2.cell? ⟨wr.heap.size, 0, none⟩ = some (.string x.nm) := cell_blk ht2 0
          have c6 : w2.cell? ⟨wr.heap.size, 6, none⟩ = some (.int .i64 x.p) := cell_blk ht2 6
          clear ht2
          have hall : allFrom [] xs = if checkE x ≠ 0 then (((i : Nat) : Int), checkE x) else
              if (xs.take i).any (fun y => decide (y.nm = x.nm)) || (xs.take i).any (fun y => decide (y.p = x.p)) then (((i : Nat) : Int), 13) else allFrom (xs.take (i + 1)) (xs.drop (i + 1)) := by
            have e1 : xs.drop i = x :: xs.drop (i + 1) := by
              rw [List.drop_eq_getElem_cons hlt]
              have := HX.out
              rw [List.getElem?_eq_getElem hlt] at this
              injection this with this
              rw [this]
            have e2 : (xs.take i).length = i := by simp; omega
            have e3 : xs.take (i + 1) = xs.take i ++ [x] := by rw [List.take_add_one, HX.out]; rfl
            rw [HALL.out, e1, allFrom, e2, e3]
          by_cases he : checkE x = 0
          · rw [if_neg (by simp [he]), cntN_pos, cntP_pos] at hall
            have HALL2 := Lib.hid hall
            clear hall HALL
            have t2 : (checkE x != 0) = false := by simp [he]
            have t3 : (checkE x == 0) = true := by simp [he]
            have hrg : rangesB x = true := by
              cases h : rangesB x
              · simp [checkE, h] at he
              · rfl
            have hnm : x.nm.size ≤ maxLen := by
              unfold rangesB at hrg
              simp at hrg
              unfold maxLen; omega
            have HNM := Lib.hid hnm
            have hpw := HWF.out x HMEM.out
            have HPW := Lib.hid hpw
            obtain ⟨cN, hcN⟩ : ∃ c, cntN (xs.take i) (.string x.nm.data.toList) = c := ⟨_, rfl⟩
            obtain ⟨cP, hcP⟩ : ∃ c, cntP (xs.take i) (.int .i64 x.p) = c := ⟨_, rfl⟩
            have e3 : xs.take (i + 1) = xs.take i ++ [x] := by rw [List.take_add_one, HX.out]; rfl
            have bN := cntN_le (xs.take i) (.string x.nm.data.toList)
            have bP := cntP_le (xs.take i) (.int .i64 x.p)
            have e2 : (xs.take i).length = i := by simp; omega
            rw [hcN, e2] at bN
            rw [hcP, e2] at bP
            obtain ⟨bN1, bN2⟩ := bN
            obtain ⟨bP1, bP2⟩ := bP
            have HCN := Lib.hid hcN
            have HCP := Lib.hid hcP
            have HCN1 : Hid (cntN (xs.take (i + 1)) (.string x.nm.data.toList) = cN + 1) := Lib.hid (by rw [e3, cntN_same, hcN])
            have HCP1 : Hid (cntP (xs.take (i + 1)) (.int .i64 x.p) = cP + 1) := Lib.hid (by rw [e3, cntP_same, hcP])
            have HFN : Hid (∀ k, k ≠ .string x.nm.data.toList → cntN (xs.take (i + 1)) k = cntN (xs.take i) k) := Lib.hid (fun k hk => by rw [e3]; exact cntN_put _ _ _ hk)
            have HFP : Hid (∀ k, k ≠ .int .i64 x.p → cntP (xs.take (i + 1)) k = cntP (xs.take i) k) := Lib.hid (fun k hk => by rw [e3]; exact cntP_put _ _ _ hk)
            have hall3 := HALL2.out
            rw [hcN, hcP] at hall3
            have HALL3 := Lib.hid hall3
            clear hall3 HALL2 e3 e2 hcN hcP hrg hnm hpw he
            go_wp2_with (first
              | (at_lookup; refine lookI law9 Tryd.underlying3 zero3 _ rfl _ _ 88 rfl Tryd.underlying88 w.heap.size _ _ rfl HN1.out _ (.string x.nm.data.toList) rfl (WideMaps.keyOf_string_mk Tryd.underlying9 HNM.out) trivial _ HCN.out ?_)
              | (at_lookup; refine lookI law3 Tryd.underlying3 zero3 _ rfl _ _ 89 rfl Tryd.underlying89 (w.heap.size + 1) _ _ rfl HN2.out _ (.int .i64 x.p) rfl (keyOf_int_mk Tryd.underlying3 HPW.out) trivial _ HCP.out ?_)
              | (at_mapUpdate; refine putI law9 Tryd.underlying3 _ rfl _ _ _ 88 rfl Tryd.underlying88 w.heap.size _ _ rfl HN1.out (by unfold maxLen; omega) _ (cN + 1) (.string x.nm.data.toList) rfl rfl (WideMaps.keyOf_string_mk Tryd.underlying9 HNM.out) trivial (WalkArith.wf_i64 (by omega)) (cntN (xs.take (i + 1))) HCN1.out HFN.out ?_
                 intro w3 hn1 K3
                 have hn2 := HN2.out.keeps K3 (by simp)
                 have hK3 := HK.out.andThen K3 (by simp)
                 have ht3 := K3.blk HT.out (by simp; omega)
                 clear HN1 HN2 HK HT HCN K3 c0 c6
                 have HN1 := Lib.hid hn1
                 have HN2 := Lib.hid hn2
                 have HK := Lib.hid hK3
                 have HT := Lib.hid ht3
                 have HCN := HCN1
                 have c0 : w3.cell? ⟨wr.heap.size, 0, none⟩ = some (.string x.nm) := cell_blk ht3 0
                 have c6 : w3.cell? ⟨wr.heap.size, 6, none⟩ = some (.int .i64 x.p) := cell_blk ht3 6
                 clear hn1 hn2 hK3 ht3)
              | (at_mapUpdate; refine putI law3 Tryd.underlying3 _ rfl _ _ _ 89 rfl Tryd.underlying89 (w.heap.size + 1) _ _ rfl HN2.out (by unfold maxLen; omega) _ (cP + 1) (.int .i64 x.p) rfl rfl (keyOf_int_mk Tryd.underlying3 HPW.out) trivial (WalkArith.wf_i64 (by omega)) (cntP (xs.take (i + 1))) HCP1.out HFP.out ?_
                 intro w4 hn2 K4
                 have hn1 := HN1.out.keeps K4 (by simp)
                 have hK4 := HK.out.andThen K4 (by simp)
                 have ht4 := K4.blk HT.out (by simp; omega)
                 clear HN1 HN2 HK HT HCP K4 c0 c6
                 have HN1 := Lib.hid hn1
                 have HN2 := Lib.hid hn2
                 have HK := Lib.hid hK4
                 have HT := Lib.hid ht4
                 have HCP := HCP1
                 have c0 : w4.cell? ⟨wr.heap.size, 0, none⟩ = some (.string x.nm) := cell_blk ht4 0
                 have c6 : w4.cell? ⟨wr.heap.size, 6, none⟩ = some (.int .i64 x.p) := cell_blk ht4 6
                 have hrun := runI law3 Tryd.underlying3 zero3 Tryd.underlying89 hn2 (keyOf_int_mk Tryd.underlying3 HPW.out) trivial HCP1.out
                 clear hn1 hn2 hK4 ht4))
            all_goals first
              | (go_ret2
                 have hcc : (decide (1 < cN + 1) || decide (1 < cP + 1)) = true := by simp; omega
                 rw [HALL3.out, if_pos hcc]
                 exact ⟨rfl, HK.out⟩)
              | (have hcc : ¬ (decide (1 < cN + 1) || decide (1 < cP + 1)) = true := by simp; omega
                 go_roundg (xs.length - (i + 1))
                 case rel => exact ⟨i + 1, Nat.le_refl _, by go_num, by omega, by rw [HALL3.out, if_neg hcc], HN1.out, HN2.out, HK.out⟩
                 case measure => omega)
          · rw [if_pos he] at hall
            have t2 : (checkE x != 0) = true := by simp [he]
            have t3 : (checkE x == 0) = false := by simp [he]
            have HALL2 := Lib.hid hall
            clear hall HALL
            go_wp2
            go_ret2
            rw [HALL2.out]
            exact ⟨rfl, HK.out⟩
        · have hend : decide (i < xs.length) = false := by simpa using hlt
          obtain rfl : i = xs.length := by omega
          go_wp2
          go_ret2
          rw [HALL.out]
          simp only [List.take_length, List.drop_length, allFrom]
          exact ⟨rfl, HK.out⟩
end Go.Proofs.YtefdcjmfbjlinaaDoor.Sc
