/- text.Read. -/
import Derived.Test.YtefdcjmfbjlinaaDoorRow
namespace Go.Proofs.YtefdcjmfbjlinaaDoor.Sc
open Go.RowKit Go.Shelf Go.Maps

theorem infoTsk : (Tryd.prog.info? 29).map (fun i => (i.zero, i.size, i.bytes)) = some (some (.agg #[.string ⟨#[]⟩, .int .i64 0, .int .i64 0, .int .i64 0, .int .i64 0, .int .i64 0, .int .i64 0]), 7, 64) := by kernel_rfl
def ReadPost (res : List Tsk × Nat × Nat) (w : World) (r : Ending) (w' : World) : Prop :=
  ∃ v, r = .returned (.tuple #[v, .int .i64 res.2.1, .int .i64 res.2.2]) ∧ RowS w' w.heap.size v res.1 ∧ Keeps [] w w'

theorem RowS.keeps {F : List Nat} {W W' : World} {base : Nat} {v : Value} {xs : List Tsk} (h : RowS W base v xs) (k : Keeps F W W') (hF : ∀ b ∈ F, b < base) : RowS W' base v xs := by
  refine ⟨h.1, ?_⟩
  rcases h.2 with h2 | ⟨g, cap, cur, hv, h1, h2, h3⟩
  · exact .inl h2
  · exact .inr ⟨g, cap, cur, hv, h1, k.blk h2 (fun hf => by have := hF g hf; omega), h3⟩
theorem RowS.lower {W : World} {base base' : Nat} {v : Value} {xs : List Tsk} (h : RowS W base v xs) (hb : base' ≤ base) : RowS W base' v xs := by
  refine ⟨h.1, ?_⟩
  rcases h.2 with h2 | ⟨g, cap, cur, hv, h1, h2, h3⟩
  · exact .inl h2
  · exact .inr ⟨g, cap, cur, hv, Nat.le_trans hb h1, h2, h3⟩

set_option maxHeartbeats 4000000 in
set_option maxRecDepth 100000 in
theorem read_any (s : ByteArray) (hs : s.size ≤ 100000) (w : World) : Calls Tryd.prog 17 #[.string s] w (ReadPost (readT s.data.toList) w) := by
  obtain ⟨i0, hi, hz0, hz1, hz2⟩ := info_parts infoTsk
  have hbt := lexL_toks s.data.toList
  have hsl : s.data.toList.length = s.size := by simp
  have HBT := Lib.hid hbt
  have HSL := Lib.hid hsl
  clear hbt hsl
  go_enter Tryd.func17, Tryd.ntmps17
  go_wp2_with fail
  refine (lex_any s (by omega) _).mono ?_
  rintro r w1 ⟨v, rfl, hrow, K1⟩
  cases hl : lexL s.data.toList with
  | mk toks rest =>
  obtain ⟨at_, er⟩ := rest
  have HL := Lib.hid hl
  rw [hl] at hrow
  simp only
  clear hl
  by_cases he : er = 0
  · subst he
    obtain ⟨A, cap, rfl, hcap, hAb, hTk⟩ := row_tk hrow
    have HTk := Lib.hid hTk
    have HAB := Lib.hid hAb
    have hn := HBT.out.1
    rw [HL.out, HSL.out] at hn
    simp only at hn
    have HN := Lib.hid hn
    have htx : ∀ t ∈ toks, t.text.length ≤ maxLen := fun t ht => by
      have := HBT.out.2 t (by rw [HL.out]; exact ht)
      rw [HSL.out] at this
      unfold maxLen; omega
    have HTX := Lib.hid htx
    clear hrow hTk hAb hn htx
    go_wp2_with fail
    obtain ⟨R, hRd⟩ : ∃ R, R = w1.heap.size := ⟨_, rfl⟩
    have hR2 := blk_new w1 (.cells #[.slice A toks.length cap, .int .i64 0, .int .i64 s.size] 67)
    rw [← hRd] at hR2 ⊢
    have hwR : w.heap.size ≤ R := by have := K1.size; omega
    have K2 : Keeps [] w (w1.alloc (.cells #[.slice A toks.length cap, .int .i64 0, .int .i64 s.size] 67)) := K1.alloc _
    have hTk2 := HTk.out.keeps ((Keeps.refl [] w1).alloc (.cells #[.slice A toks.length cap, .int .i64 0, .int .i64 s.size] 67)) (by simp)
    have hAR : ∀ a, A = some a → a.block ≠ R := fun a ha => by have := (HAB.out a ha).2; omega
    have HAR := Lib.hid hAR
    have HR2 : Hid (_ = some (rdO A toks.length cap 0 s.size)) := Lib.hid hR2
    have HK2 := Lib.hid K2
    have HTk2 := Lib.hid hTk2
    have hsz2 : (w1.alloc (.cells #[.slice A toks.length cap, .int .i64 0, .int .i64 s.size] 67)).heap.size = R + 1 := by simp [hRd]
    clear hRd hR2 K2 hTk2 hAR HTk HAB K1
    generalize (w1.alloc (.cells #[.slice A toks.length cap, .int .i64 0, .int .i64 s.size] 67)) = w2 at HR2 HK2 HTk2 hsz2 ⊢
    have HSZ2 := Lib.hid hsz2
    clear hsz2
    go_loopg [9] (toks.length) (fun gh ov wr => ∃ (k : Nat) (pre : List Tsk), toks.length - k ≤ gh ∧ k ≤ toks.length ∧ pre.length ≤ k ∧ rd s.size toks = joinR pre (rd s.size (toks.drop k)) ∧ RowS wr (R + 1) ov pre ∧ wr.heap[R]? = some (rdO A toks.length cap k s.size) ∧ Keeps [R] w2 wr)
    case atStart => exact ⟨0, [], by omega, by omega, by simp, by rw [List.drop_zero, joinR_nil_rd _ _ _ (Nat.le_refl _)], World.ownsRow_nil _ _ _ _, HR2.out, Keeps.refl _ _⟩
    case round =>
      obtain ⟨k, pre, hgh, hk, hpk, hrd, hrow, hR, hK⟩ := hrel
      have hTkr := HTk2.out.keeps hK (fun a ha => by simpa using HAR.out a ha)
      obtain ⟨r0, r1, r2, -, -, -⟩ := facts3 hR
      have HRD := Lib.hid hrd
      have HROW := Lib.hid hrow
      have HR := Lib.hid hR
      have HK := Lib.hid hK
      have HTkr := Lib.hid hTkr
      have hGS := hK.size
      clear hrd hrow hR hK hTkr HR2 r2
      by_cases hlt : k < toks.length
      · have hdk : decide (k < toks.length) = true := by simpa using hlt
        go_wp2_with fail
        refine (take_both R A cap k s.size 4 toks wr HR.out HTkr.out (by have := HN.out; omega)).mono ?_
        rintro r w3 ⟨b, k2, rfl, hb, hR3, K3⟩
        obtain ⟨t, ht⟩ : ∃ t, toks[k]? = some t := ⟨toks[k], by simp [hlt]⟩
        have hht := hereT_in (e := s.size) ht
        rw [hht] at hb ⊢
        have hd := drop_cons ht
        obtain ⟨kd, at1, tx1, nu1⟩ := t
        simp only [tkV]
        simp only at hb
        have HD := Lib.hid hd
        have HR3 := Lib.hid hR3
        have HROW3 := Lib.hid (HROW.out.keeps K3 (by simp))
        have HK3 := Lib.hid (HK.out.trans K3)
        clear hht hd ht hR3 K3 r0 r1 HROW HR HK HTkr hdk
        have K4 : Keeps [] w3 (w3.alloc (.cells #[.int .i64 kd, .int .i64 at1, .string ⟨tx1.toArray⟩, .int .i64 nu1] 69)) := (Keeps.refl _ _).alloc _
        have HR4 := Lib.hid (K4.blk HR3.out (by simp))
        have HROW4 := Lib.hid (HROW3.out.keeps K4 (by simp))
        have HK4 := Lib.hid (HK3.out.trans (K4.mono (by simp)))
        clear K4 HR3 HROW3 HK3
        cases b with
        | true =>
          obtain ⟨rfl, rfl⟩ : kd = 4 ∧ k2 = k + 1 := by
            rcases hb with ⟨_, h1, h2⟩ | ⟨h, _, _⟩
            · exact ⟨h1, h2⟩
            · cases h
          have hrd2 : rd s.size toks = joinR pre (rd s.size (toks.drop (k + 1))) := by
            rw [HRD.out, HD.out, rd_line _ rfl]
          have HRD2 := Lib.hid hrd2
          clear hb hrd2
          go_wp2
          go_roundg (toks.length - (k + 1))
          case rel => exact ⟨k + 1, pre, Nat.le_refl _, by omega, by omega, HRD2.out, HROW4.out, HR4.out, HK4.out⟩
          case measure => omega
        | false =>
          obtain ⟨hk4, rfl⟩ : kd ≠ 4 ∧ k2 = k := by
            rcases hb with ⟨h, _, _⟩ | ⟨_, h1, h2⟩
            · cases h
            · exact ⟨h1, h2⟩
          have HK4' := Lib.hid hk4
          have hkn : k2 ≤ 1000000 := by have := HN.out; omega
          clear hb hk4
          go_wp2_with fail
          generalize (w3.alloc (.cells #[.int .i64 kd, .int .i64 at1, .string ⟨tx1.toArray⟩, .int .i64 nu1] 69)) = w4 at HR4 HROW4 HK4 ⊢
          refine (task_any R A cap k2 s.size toks w4 HR4.out (HTk2.out.keeps HK4.out (fun a ha => by simpa using HAR.out a ha)) HAR.out hk (by have := HN.out; omega) HTX.out).mono ?_
          rintro r w5 ⟨x, o, k3, rfl, hox, htl, hk3, hR5, K5⟩
          have HOX := Lib.hid hox
          have HTL := Lib.hid htl
          have K6 : Keeps [] w5 (w5.alloc (tskO x)) := (Keeps.refl _ _).alloc _
          have hx6 := blk_new w5 (tskO x)
          have HR6 := Lib.hid (K6.blk hR5 (by simp))
          have HROW6 := Lib.hid ((HROW4.out.keeps K5 (by simp)).keeps K6 (by simp))
          have HK6 := Lib.hid ((HK4.out.trans K5).trans (K6.mono (by simp)))
          have HTk6 := Lib.hid (HTk2.out.keeps HK6.out (fun a ha => by simpa using HAR.out a ha))
          have HX6 := Lib.hid hx6
          clear hox htl hR5 K5 K6 hx6 HR4 HROW4 HK4
          cases o with
          | none =>
            simp only [tskV, Option.isSome_none]
            go_wp2_with fail
            refine (here_any R A cap k3 s.size toks (w5.alloc (tskO x)) HR6.out HTk6.out).mono ?_
            rintro r w7 ⟨rfl, K7⟩
            have hpl := place_here toks k3 s.size
            obtain ⟨t7, ht7⟩ : ∃ t, hereT toks k3 s.size = t := ⟨_, rfl⟩
            rw [ht7] at hpl ⊢
            obtain ⟨kd7, at7, tx7, nu7⟩ := t7
            simp only [tkV]
            have hf1 : ∀ W : World, (Instr.field 69 (.agg #[.int .i64 kd7, .int .i64 at7, .string ⟨tx7.toArray⟩, .int .i64 nu7]) 1).run Tryd.prog W = .ok (.int .i64 at7) W := fun _ => by kernel_rfl
            have HPL := Lib.hid hpl
            have HK7 := Lib.hid (HK6.out.trans (K7.mono (by simp)))
            clear hpl ht7 K7
            go_wp2
            have hres : readT s.data.toList = ([], at7, 10) := by
              unfold readT
              rw [HL.out, HSL.out]
              simp only [if_true]
              rw [HRD.out, HD.out, rd_none _ HK4'.out (by rw [← HD.out]; exact HTL.out), HPL.out]
              rfl
            refine bodyPost_ret (v := .tuple #[.slice none 0 0, .int .i64 at7, .int .i64 10]) (by simp [results, Tryd.results17, go_sem]) rfl ?_
            rw [hres]
            exact ⟨_, rfl, World.ownsRow_nil _ _ _ _, HK2.out.andThen HK7.out (by intro g hg; simp at hg; subst hg; exact .inr hwR)⟩
          | some y =>
            obtain rfl := HOX.out y rfl
            simp only [tskV, Option.isSome_some]
            have hrd3 : rd s.size toks = joinR (pre ++ [y]) (rd s.size (toks.drop k3)) := by
              rw [HRD.out, HD.out, rd_some _ HK4'.out (by rw [← HD.out]; exact HTL.out), joinR_step]
            have hlen3 : (toks.drop k3).length < (toks.drop (k2 + 1)).length := taskL_some (by rw [← HD.out]; exact HTL.out)
            simp at hlen3
            have HRD3 := Lib.hid hrd3
            have hpk' : pre.length ≤ 100000 := by have := HN.out; omega
            have hw6 : (w5.alloc (tskO y)).heap.size = w5.heap.size + 1 := by simp
            have hR6l : R < w5.heap.size + 1 := by have := blk_lt HR6.out; omega
            clear hrd3 HTL HOX
            obtain ⟨t0, t1, t2, t3, t4, t5, t6, -, -, -, -, -, -, -⟩ := facts7 HX6.out
            have hnew : ((w5.alloc (tskO y)).alloc (tskO y)).heap[w5.heap.size + 1]? = some (tskO y) := by rw [← hw6]; exact blk_new _ _
            have hR7 := blk_alloc HR6.out (tskO y)
            have hown7 : World.ownsRow ((w5.alloc (tskO y)).alloc (tskO y)) (R + 1) 29 7 u9 pre.length (pre.flatMap cellsTsk) := HROW6.out.alloc _
            have HNEW := Lib.hid hnew
            have HR7 := Lib.hid hR7
            have HOWN7 := Lib.hid hown7
            have HW6 := Lib.hid hw6
            clear hnew hR7 hown7 hw6
            go_wp2_with (at_builtin; refine wpList_append_own _ rfl _ _ 22 rfl (R + 1) 29 i0 _ 7 64 Tryd.underlying22 hi hz0 hz1 hz2 rfl (by decide) u9 pre.length _ rfl HOWN7.out ⟨w5.heap.size + 1, 0, none⟩ 1 1 (cellsTsk y) rfl rfl (World.news_of_block HNEW.out) (by simp [cellsTsk, Value.oneCell']) (by unfold maxLen; omega) (by omega) (by have := HW6.out; simp; omega) ?_; intro v' w8 hown8 hgrow8 _; have HOWN8 := Lib.hid hown8; have HGROW8 := Lib.hid hgrow8; clear hown8 hgrow8)
            have hob : ∀ g, u9.ownBlock = some g → R + 1 ≤ g := fun g hg => (World.ownsRow.lt HOWN7.out g hg).1
            go_roundg (toks.length - k3)
            case rel =>
              refine ⟨k3, pre ++ [y], Nat.le_refl _, hk3, by simp; omega, HRD3.out, ?_, blk_grown HGROW8.out HR7.out (fun e => by have := hob R e; omega), ?_⟩
              · unfold RowS
                rw [List.length_append, List.flatMap_append]
                simpa using HOWN8.out
              · exact Keeps.grown (HK6.out.alloc (tskO y)) HGROW8.out (fun g hg => .inr (by have := hob g hg; have := HSZ2.out; omega))
            case measure => omega
      · obtain rfl : k = toks.length := by omega
        have hdk : decide (toks.length < toks.length) = false := by simp
        have hres : readT s.data.toList = (pre, s.size, 0) := by
          unfold readT
          rw [HL.out, HSL.out]
          simp only [if_true]
          rw [HRD.out, List.drop_length, rd_nil]
          simp [joinR]
        have HRES := Lib.hid hres
        clear hres hlt
        go_wp2
        refine bodyPost_ret (v := .tuple #[u9, .int .i64 s.size, .int .i64 0]) (by simp [results, Tryd.results17, go_sem]) rfl ?_
        rw [HRES.out]
        exact ⟨_, rfl, HROW.out.lower (by omega), HK2.out.andThen HK.out (by intro g hg; simp at hg; subst hg; exact .inr hwR)⟩
  · have hne : ((er : Int) != 0) = true := by simp; omega
    have hres : readT s.data.toList = ([], at_, er) := by
      unfold readT
      rw [HL.out]
      simp [he]
    have HRES := Lib.hid hres
    clear hres he hrow
    go_wp2
    refine bodyPost_ret (v := .tuple #[.slice none 0 0, .int .i64 at_, .int .i64 er]) (by simp [results, Tryd.results17, go_sem]) rfl ?_
    rw [HRES.out]
    exact ⟨_, rfl, World.ownsRow_nil _ _ _ _, K1⟩
end Go.Proofs.YtefdcjmfbjlinaaDoor.Sc
