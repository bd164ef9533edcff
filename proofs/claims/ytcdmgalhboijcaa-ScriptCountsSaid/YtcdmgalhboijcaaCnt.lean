/- script's Count, walked. -/
import Derived.Test.YtcdmgalhboijcaaLeg
import Derived.Handy
import Derived.Maps.OwnSet
set_option linter.unusedVariables false
set_option linter.unusedSimpArgs false
namespace Go.Proofs.Ytcdmgalhboijcaa.Sc
open Go.RowKit Go.Shelf Go.Maps Go.Proofs.YtcdmgalhboijcaaW.PrintWords Go.Proofs.YtcdmgalhboijcaaW.PrintMore

/-- A map of the call's own, of whole numbers that are above 0. -/
def IsMapC (w : World) (b n : Nat) (f : Lit → Int) : Prop :=
  ∃ D : DataW Unit, w.ownsMap Try.prog 3 (plainElem Try.prog 3) b n D ∧ IsMap D ∧ ∀ kl, WideAt.IsKeyLit kl → D.atKey kl (.lit (.int .i64 0)) = .lit (.int .i64 (f kl)) ∧ Maps.has D kl = decide (0 < f kl)
theorem IsMapC.made (w : World) : IsMapC (w.alloc (.map #[] 0)) w.heap.size 0 (fun _ => 0) :=
  ⟨_, World.ownsMap_made _ _ _ _, ⟨[], rfl⟩, fun _ _ => ⟨rfl, rfl⟩⟩
theorem IsMapC.lt {w : World} {b n : Nat} {f : Lit → Int} (h : IsMapC w b n f) : b < w.heap.size := by
  obtain ⟨D, h1, _⟩ := h
  exact h1.lt
theorem IsMapC.blk {w w' : World} {b n : Nat} {f : Lit → Int} (h : IsMapC w b n f) (hb : w'.heap[b]? = w.heap[b]?) : IsMapC w' b n f := by
  obtain ⟨D, ⟨es, clock, h1, h2⟩, h3⟩ := h
  exact ⟨D, ⟨es, clock, hb.trans h1, h2⟩, h3⟩
theorem IsMapC.keeps {w w' : World} {b n : Nat} {f : Lit → Int} {F : List Nat} (h : IsMapC w b n f) (k : Keeps F w w') (hb : b ∉ F) : IsMapC w' b n f := h.blk (k.block b h.lt hb)
theorem runC {w : World} {b n : Nat} {f : Lit → Int} (h : IsMapC w b n f) {key : Value} {kl : Lit} (hk : keyOf Try.prog 3 key = some kl) (hkl : WideAt.IsKeyLit kl) {c0 : Int} (hc0 : f kl = c0) :
    (Instr.lookup 48 (.map (some b)) key false).run Try.prog w = .ok (.int .i64 c0) w := by
  obtain ⟨D, h1, h2, h3⟩ := h
  obtain ⟨c, hr, hc, _⟩ := h1.lookup_int law3 Try.underlying48 Try.underlying3 (zero3 w) hk
  rw [(h3 kl hkl).1, hc0] at hc
  injection hc with hc
  injection hc with _ hc
  rw [hc]
  exact hr
theorem runOk {w : World} {b n : Nat} {f : Lit → Int} (h : IsMapC w b n f) {key : Value} {kl : Lit} (hk : keyOf Try.prog 3 key = some kl) (hkl : WideAt.IsKeyLit kl) {c0 : Int} (hc0 : f kl = c0) :
    (Instr.lookup 48 (.map (some b)) key true).run Try.prog w = .ok (.tuple #[.int .i64 c0, .bool (decide (0 < c0))]) w := by
  obtain ⟨D, h1, h2, h3⟩ := h
  obtain ⟨v, ps, hr, hv⟩ := h1.look_ok law3 Try.underlying48 (zero3 w) (plainElem_int Try.underlying3 (by decide)) hk
  obtain ⟨c, rfl, hc, hwc⟩ := plainElem_int_inv Try.underlying3 hv
  rw [(h3 kl hkl).1, hc0] at hc
  simp only [Prod.mk.injEq] at hc
  have hc' := hc.1
  injection hc' with hc'
  injection hc' with _ hc'
  rw [(h3 kl hkl).2, hc0, ← hc'] at hr
  exact hr
theorem putC (w : World) {ops : Array Oper} {rest : List Oper} {o : Oper} {a : Act} {Q : Exit → Act → World → Prop} (hg : o.guard = none) (m x v : Operand) (hop : o.op = Op.mapUpdate 48 m x v)
    (b n : Nat) (f : Lit → Int) (hm : a.eval m = .map (some b)) (h : IsMapC w b n f) (hn : n < maxLen) (key : Value) (c : Int) (kl : Lit) (hx : a.eval x = key) (hv : a.eval v = .int .i64 c) (hk : keyOf Try.prog 3 key = some kl) (hkl : WideAt.IsKeyLit kl)
    (hc : (Lit.int .i64 c).wf = true) (hc0 : 0 < c) (f' : Lit → Int) (hf : f' kl = c) (hf' : ∀ k, k ≠ kl → f' k = f k)
    (hK : ∀ w', IsMapC w' b (n + 1) f' → Keeps [b] w w' → wpList Try.prog ops Q rest (a.put o.dst undef) w') : wpList Try.prog ops Q (o :: rest) a w := by
  obtain ⟨D, h1, h2, h3⟩ := h
  refine wpList_mapUpdate_own w hg m x v 48 hop 3 3 law3 Try.underlying48 _ b n D hm h1 hn key (.int .i64 c) kl hx hv hk _ [] (plainElem_int Try.underlying3 hc) ?_
  intro w' h' hg'
  refine hK w' ⟨_, h', h'.isMap, fun k hkk => ?_⟩ ⟨hg'.os, hg'.tape, hg'.output, hg'.size, fun j hj hn => hg'.block j hj (by simpa using hn)⟩
  by_cases e : k = kl
  · subst e
    rw [atKey_put_same h2 hkl, hf, has_put_same h2 hkl]
    exact ⟨rfl, (decide_eq_true hc0).symm⟩
  · rw [atKey_put_other e, has_put_other e, (h3 k hkk).1, (h3 k hkk).2, hf' k e]
    exact ⟨rfl, rfl⟩

def cntF (js : List Jb) : Lit → Int
  | .int .i64 k => ((js.countP fun j => decide (j.task = k) : Nat) : Int)
  | _ => 0
theorem cntF_put (pre : List Jb) (j : Jb) (k : Lit) (h : k ≠ .int .i64 j.task) : cntF (pre ++ [j]) k = cntF pre k := by
  unfold cntF
  split
  · rename_i p
    have : ¬ j.task = p := fun e => h (by rw [e])
    simp [List.countP_append, this]
  · rfl
theorem cntF_same (pre : List Jb) (j : Jb) : cntF (pre ++ [j]) (.int .i64 j.task) = cntF pre (.int .i64 j.task) + 1 := by
  simp [cntF, List.countP_append]
theorem cntF_le (pre : List Jb) (k : Int) : 0 ≤ cntF pre (.int .i64 k) ∧ cntF pre (.int .i64 k) ≤ pre.length := by
  have h := List.countP_le_length (p := fun j : Jb => decide (j.task = k)) (l := pre)
  show 0 ≤ ((pre.countP fun j => decide (j.task = k) : Nat) : Int) ∧ ((pre.countP fun j => decide (j.task = k) : Nat) : Int) ≤ _
  constructor <;> omega
/-- What Count has when so many jobs are told. -/
def CntInv (n0 : Nat) (m : Nat) (pre : List Jb) (W : World) : Prop :=
  IsMapC W n0 pre.length (cntF pre) ∧ W.heap[n0 + 1]? = some (.cells #[.map (some n0)] 48 (0, 0)) ∧ n0 + 2 ≤ m
theorem cntInv_keep (n0 m : Nat) (pre : List Jb) (w1 w2 : World) (h : CntInv n0 m pre w1) (k : Keeps [m] w1 w2) : CntInv n0 m pre w2 := by
  obtain ⟨h1, h2, h3⟩ := h
  exact ⟨h1.keeps k (by simp; omega), k.blk h2 (by simp; omega), h3⟩
theorem eg33 (args : Array Value) (w : World) : (callFunc 33 args).run Try.prog w = .ok (.enter 33 args) w := by kernel_rfl

set_option maxHeartbeats 4000000 in
theorem cnt1_any (l : List Tsk) (w0 : World) (m : Nat) (pre : List Jb) (j : Jb) (wr w1 : World) (A4 : Option Addr) (c4 : Nat) (gap : Int) (hinv : CntInv w0.heap.size m pre wr) (hk : Keeps [] wr w1)
    (hB : Below w0.heap.size w0 wr) (hmr : m < wr.heap.size) (hpl : pre.length < 4096) (ht0 : 0 ≤ j.task) (ht1 : j.task < 9223372036854775807) :
    Calls Try.prog 33 #[.agg #[.int .i64 j.task, .int .i64 j.arrive, .int .i64 j.release, .int .i64 j.work, .slice A4 j.cuts.length c4], .int .i64 gap, .pointer (some ⟨w0.heap.size + 1, 0, none⟩)] w1
      (fun e w2 => e = .returned (.tuple #[]) ∧ CntInv w0.heap.size m (pre ++ [j]) w2 ∧ Below w0.heap.size w0 w2 ∧ w1.heap.size ≤ w2.heap.size ∧ w2.os = w1.os ∧ w2.tape = w1.tape ∧ w2.output = w1.output ∧ ∀ b, (b = m ∨ (wr.heap.size ≤ b ∧ b < w1.heap.size)) → w2.heap[b]? = w1.heap[b]?) := by
  obtain ⟨hM, hV, hm2⟩ := cntInv_keep _ m pre wr w1 hinv ⟨hk.os, hk.tape, hk.output, hk.size, fun q hq _ => hk.block q hq (by simp)⟩
  have hB1 := below_keeps hB hk (by simp) hB.size
  have hks := hk.size
  have hc := cntF_le pre j.task
  obtain ⟨c, hcc⟩ : ∃ c, cntF pre (.int .i64 j.task) = c := ⟨_, rfl⟩
  rw [hcc] at hc
  obtain ⟨hc0, hc1⟩ := hc
  have HCC := Lib.hid hcc
  have HCC1 := Lib.hid (show cntF (pre ++ [j]) (.int .i64 j.task) = c + 1 by rw [cntF_same, hcc])
  have HCO := Lib.hid (cntF_put pre j)
  have hmlt := hM.lt
  have HV := Lib.hid hV
  have HB1 := Lib.hid hB1
  have HKS := Lib.hid hks
  have hM2 := hM.keeps ((Keeps.refl [] w1).alloc (.cells #[.int .i64 j.task, .int .i64 j.arrive, .int .i64 j.release, .int .i64 j.work, .slice A4 j.cuts.length c4] 39)) (by simp)
  have hrun := runC hM2 (keyOf_int_mk (a := j.task) Try.underlying3 (WalkArith.wf_i64 (by omega))) trivial hcc
  have v0 := cell_blk (blk_alloc hV (.cells #[.int .i64 j.task, .int .i64 j.arrive, .int .i64 j.release, .int .i64 j.work, .slice A4 j.cuts.length c4] 39)) 0
  have HM := Lib.hid hM2
  clear hinv hk hB hcc hM hV hB1 hks hM2
  go_enter Try.func33, Try.ntmps33
  go_wp2_with (at_mapUpdate; refine putC _ rfl _ _ _ rfl w0.heap.size pre.length (cntF pre) rfl HM.out (by unfold maxLen; omega) _ (c + 1) (.int .i64 j.task) rfl rfl (keyOf_int_mk (a := j.task) Try.underlying3 (WalkArith.wf_i64 (by omega))) trivial (WalkArith.wf_i64 (by omega)) (by omega) (cntF (pre ++ [j])) HCC1.out HCO.out ?_; intro W8 hm8 K8)
  have K9 : Keeps [w0.heap.size] w1 W8 := (((Keeps.refl [] w1).alloc (.cells #[.int .i64 j.task, .int .i64 j.arrive, .int .i64 j.release, .int .i64 j.work, .slice A4 j.cuts.length c4] 39)).mono (by simp)).trans K8
  go_returns
  have hB8 := below_keeps HB1.out K9 (by simp) HB1.out.size
  have hB1 := HB1.out
  have h1 := HKS.out
  refine ⟨rfl, ⟨by simpa using hm8, K9.blk HV.out (by simp), hm2⟩, hB8, K9.size, K9.os, K9.tape, K9.output, K9.block m (by omega) (by simp; omega), fun b hb1 hb2 => K9.block b hb2 (by simp; omega)⟩
theorem task_lt {l : List Tsk} {pre : List Jb} {j : Jb} (h : jobOk l pre j = true) : 0 ≤ j.task ∧ j.task < l.length := by
  unfold jobOk at h
  rw [Bool.and_eq_true] at h
  exact taskOk_true h.1
theorem sees2 (l : List Tsk) (hl : l.length ≤ 9223372036854775807) (jobs : List Jb) (w0 : World) : Sees l jobs w0 33 #[.pointer (some ⟨w0.heap.size + 1, 0, none⟩)] (CntInv w0.heap.size) := by
  refine ⟨fun m pre w1 w2 h k _ => cntInv_keep _ m pre w1 w2 h k, ?_⟩
  intro m pre j wr w1 A4 c4 hinv hfine hk hB hm hmr hmem hpl hj hsb hC hc
  have ht := task_lt hj
  exact cnt1_any l w0 m pre j wr w1 A4 c4 _ hinv hk hB hmr hpl ht.1 (by omega)
def CountPost (l : List Tsk) (jobs : List Jb) (w : World) (e : Ending) (w' : World) : Prop :=
  (legalL l jobs = false → e = .returned (.map none)) ∧ (legalL l jobs = true → e = .returned (.map (some w.heap.size)) ∧ IsMapC w' w.heap.size jobs.length (cntF jobs)) ∧ Below w.heap.size w w'
set_option maxHeartbeats 4000000 in
theorem Count_any (A0 : Option Addr) (c0 : Nat) (l : List Tsk) (A1 : Option Addr) (c1 : Nat) (jobs : List Jb) (w : World) (hsz : ∀ x ∈ l, x.nm.size ≤ maxLen) (hwf : ∀ x ∈ l, (Lit.int .i64 x.p).wf = true)
    (h0 : kTsk.C w A0 l.length l) (hc0 : l.length ≤ c0) (h1 : kJb.C w A1 jobs.length jobs) (hc1 : jobs.length ≤ c1) :
    Calls Try.prog 21 #[.slice A0 l.length c0, .slice A1 jobs.length c1] w (CountPost l jobs w) := by
  have hmm := @run_makeMap Try.prog
  have H0 := Lib.hid h0
  have H1 := Lib.hid h1
  have HSZ := Lib.hid hsz
  have HWF := Lib.hid hwf
  have hll : l.length ≤ 9223372036854775807 := h0.2.1
  clear h0 h1 hsz hwf
  go_enter Try.func21, Try.ntmps21
  go_wp2_with fail
  have hm0 : IsMapC ((w.alloc (.map #[] 0)).alloc (.cells #[.map (some w.heap.size)] 48)) w.heap.size 0 (fun _ => 0) := (IsMapC.made w).keeps ((Keeps.refl [] _).alloc _) (by simp)
  have hb7 := blk_new1 w (.map #[] 0) (.cells #[.map (some w.heap.size)] 48)
  have hB0 : Below w.heap.size w ((w.alloc (.map #[] 0)).alloc (.cells #[.map (some w.heap.size)] 48)) := ((Below.refl _ _).alloc (Nat.le_refl _) _).alloc (by simp) _
  have hsz2 : ((w.alloc (.map #[] 0)).alloc (.cells #[.map (some w.heap.size)] 48)).heap.size = w.heap.size + 2 := by simp
  have e0 : cntF [] = fun _ => 0 := by funext k; unfold cntF; split <;> simp
  rw [← e0] at hm0
  clear hmm e0
  generalize ((w.alloc (.map #[] 0)).alloc (.cells #[.map (some w.heap.size)] 48)) = w2 at hm0 hb7 hB0 hsz2 ⊢
  refine (legal_any A0 c0 l A1 c1 jobs w w2 33 #[.pointer (some ⟨w.heap.size + 1, 0, none⟩)] (CntInv w.heap.size) eg33 HSZ.out HWF.out hB0 H0.out hc0 H1.out hc1 (sees2 l hll jobs w) (fun m w1 k hm _ => ⟨hm0.keeps k (by simp), k.blk hb7 (by simp), by omega⟩)).mono ?_
  clear hm0 hb7 hB0 hsz2 w2
  rintro e w3 ⟨rfl, hB3, hI⟩
  cases hle : legalL l jobs
  · have HB3 := Lib.hid hB3
    have HLE := Lib.hid hle
    clear hB3 hI hle
    go_wp2
    go_ret
    exact ⟨fun _ => rfl, (fun h => by rw [HLE.out] at h; cases h), HB3.out⟩
  · obtain ⟨m, hM, hV, hm2⟩ := hI hle
    have HB3 := Lib.hid hB3
    have HM := Lib.hid hM
    have v0 := cell_blk hV 0
    have HLE := Lib.hid hle
    clear hB3 hI hle hM hV
    go_wp2
    go_ret
    exact ⟨(fun h => by rw [HLE.out] at h; cases h), fun _ => ⟨rfl, HM.out⟩, HB3.out⟩
end Go.Proofs.Ytcdmgalhboijcaa.Sc
