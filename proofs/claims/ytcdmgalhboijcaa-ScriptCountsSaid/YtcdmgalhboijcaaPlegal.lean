/- What is decoded is legal; what is legal, encoded and decoded, is the same: plain Lean. -/
import Derived.Test.YtcdmgalhboijcaaPshift
import Derived.Test.YtcdmgalhboijcaaEnc
set_option linter.unusedVariables false
set_option linter.unusedSimpArgs false
namespace Go.Proofs.Ytcdmgalhboijcaa.Sc
open Go.RowKit Go.Shelf Go.Maps

theorem withinB_mk {n lo hi : Int} (h0 : lo ≤ n) (h1 : n ≤ hi) : withinB n lo hi = true := by
  unfold withinB
  simp [h0, h1]
theorem cutsOk_cutL (q : Int) (hq : 1 ≤ q) : ∀ (cs : List Int) (w : Int), 0 ≤ w → cutsOk q (cutL cs w q) w = true
  | [], w, _ => rfl
  | c :: cs, w, hw => by
    unfold cutL
    split
    · rfl
    · rename_i hz
      have h0 := Int.emod_nonneg c (show min q w ≠ 0 by omega)
      have h1 := Int.emod_lt_of_pos c (show 0 < min q w by omega)
      rw [cutsOk, withinB_mk (by omega) (by omega), Bool.true_and]
      exact cutsOk_cutL q hq cs _ (by omega)
theorem jobOk_step {l : List Tsk} (hl : 1 ≤ l.length) (hf : ∀ x ∈ l, Fine x) {out : List Jb} (hs : Soon l out) (ho : out.length < 4096) (r : Rw) : jobOk l out (stepJ l out r) = true := by
  have hk := step_key hl r.task
  have hF := hf _ (tsk_mem hk.1 hk.2).1
  have hq := hs (r.task % (l.length : Int))
  have hg0 := Int.emod_nonneg r.gap (show (1048576 : Int) ≠ 0 by omega)
  have hg1 := Int.emod_lt_of_pos r.gap (show (0 : Int) < 1048576 by omega)
  have fj0 := hF.j0
  have fj1 := hF.j1
  have fc0 := hF.c0
  have fq0 := hF.q0
  have ha0 := Int.emod_nonneg r.late (show (tsk l (r.task % (l.length : Int))).j + 1 ≠ 0 by omega)
  have ha1 := Int.emod_lt_of_pos r.late (show 0 < (tsk l (r.task % (l.length : Int))).j + 1 by omega)
  have hb0 := Int.emod_nonneg r.work (show (tsk l (r.task % (l.length : Int))).c ≠ 0 by omega)
  have hb1 := Int.emod_lt_of_pos r.work (show 0 < (tsk l (r.task % (l.length : Int))).c by omega)
  have hle : (out.length : Int) ≤ 4095 := by omega
  have hs2 : soon l out (r.task % (l.length : Int)) ≤ 8798239457280 := by omega
  unfold jobOk taskOk stepJ
  simp only
  rw [decide_eq_true hk.1, decide_eq_true hk.2, withinB_mk (by omega) (by omega), withinB_mk (by omega) (by omega), withinB_mk (by omega) (by omega), cutsOk_cutL _ fq0 _ _ (by omega)]
  rfl
theorem legalFrom_tl {l : List Tsk} (hl : 1 ≤ l.length) (hf : ∀ x ∈ l, Fine x) : ∀ (rs : List Rw) (out : List Jb), Soon l out → out.length + rs.length ≤ 4096 → legalFrom l out (tl l out rs) = true
  | [], _, _, _ => rfl
  | r :: rs, out, hs, hn => by
    simp only [List.length_cons] at hn
    simp only [tl, legalFrom]
    rw [jobOk_step hl hf hs (by omega) r, Bool.true_and]
    exact legalFrom_tl hl hf rs _ (soon_step hl hf hs r) (by simp; omega)
theorem legal_decode {l : List Tsk} (hm : mayB l = true) (rs : List Rw) (hn : rs.length ≤ 4096) : legalL l (decodeL l rs) = true := by
  have hf := may_fine hm
  unfold legalL
  rw [hm, decodeL_tl hm hn, tl_length, decide_eq_true hn, legalFrom_tl hf.1 hf.2.2 rs [] (soon_nil l) (by simpa using hn)]
  rfl
theorem legal_nil {l : List Tsk} (hm : mayB l = true) : legalL l [] = true := by
  unfold legalL
  rw [hm]
  rfl
theorem legal_none (js : List Jb) : legalL [] js = false := rfl

theorem cutL_back (q : Int) : ∀ (cs : List Int) (w : Int), cutsOk q cs w = true → 0 ≤ w → cutL (cs.map (· - 1)) w q = cs
  | [], w, _, _ => rfl
  | c :: cs, w, h, hw => by
    simp only [cutsOk, Bool.and_eq_true] at h
    have h1 := withinB_true h.1
    rw [List.map_cons, cutL, if_neg (by omega), Int.emod_eq_of_lt (by omega) (by omega)]
    have e : (1 : Int) + (c - 1) = c := by omega
    rw [e, cutL_back q cs _ h.2 (by omega)]
theorem step_enc {l : List Tsk} (hf : ∀ x ∈ l, Fine x) {out : List Jb} {j : Jb} (hj : jobOk l out j = true) (hg : gapOf l out j < 1048576) : stepJ l out (encR l out j) = j := by
  have hb := jobOk_true hj
  obtain ⟨t0, t1, a0, a1, r0, r1, w0, w1, cs⟩ := hb
  unfold gapOf at hg
  unfold stepJ encR gapOf
  simp only [Int.emod_eq_of_lt t0 t1]
  rw [Int.emod_eq_of_lt (a := j.arrive - soon l out j.task) (by omega) hg, Int.emod_eq_of_lt (a := j.release - j.arrive) (by omega) (by omega), Int.emod_eq_of_lt (a := j.work - 1) (by omega) (by omega)]
  have e1 : soon l out j.task + (j.arrive - soon l out j.task) = j.arrive := by omega
  have e2 : j.arrive + (j.release - j.arrive) = j.release := by omega
  have e3 : (1 : Int) + (j.work - 1) = j.work := by omega
  rw [e1, e2, e3, cutL_back _ _ _ cs (by omega)]
theorem tl_enc {l : List Tsk} (hf : ∀ x ∈ l, Fine x) : ∀ (js out : List Jb), legalFrom l out js = true → okFrom l out js = true → tl l out (encFrom l out js) = js
  | [], _, _, _ => rfl
  | j :: js, out, h, hk => by
    simp only [legalFrom, Bool.and_eq_true] at h
    simp only [okFrom, Bool.and_eq_true, decide_eq_true_eq] at hk
    simp only [encFrom, tl]
    rw [step_enc hf h.1 hk.1, tl_enc hf js _ h.2 hk.2]
theorem decode_enc {l : List Tsk} {js : List Jb} (h : legalL l js = true) (hk : okAll l js = true) : decodeL l (encs l js) = js := by
  unfold legalL at h
  simp only [Bool.and_eq_true, decide_eq_true_eq] at h
  obtain ⟨hm, hn, hl⟩ := h
  have hf := may_fine hm
  have hel : (encs l js).length = js.length := encFrom_length l js []
  rw [decodeL_tl hm (by rw [hel]; exact hn)]
  exact tl_enc hf.2.2 js [] hl hk
theorem encFrom_cuts {l : List Tsk} (hf : ∀ x ∈ l, Fine x) : ∀ (js out : List Jb), legalFrom l out js = true → ∀ r ∈ encFrom l out js, r.cuts.length ≤ 17592186044416
  | [], _, _, r, hr => by cases hr
  | j :: js, out, h, r, hr => by
    simp only [legalFrom, Bool.and_eq_true] at h
    simp only [encFrom] at hr
    rcases List.mem_cons.1 hr with rfl | hr
    · have hb := jobOk_true h.1
      have hF := hf _ (tsk_mem hb.t0 hb.t1).1
      have h1 := hF.c1
      have h2 := hb.w1
      have h0 := hb.w0
      have h3 := cutsOk_len hb.cs (by omega)
      show (j.cuts.map (· - 1)).length ≤ _
      rw [List.length_map]
      omega
    · exact encFrom_cuts hf js _ h.2 r hr
end Go.Proofs.Ytcdmgalhboijcaa.Sc
