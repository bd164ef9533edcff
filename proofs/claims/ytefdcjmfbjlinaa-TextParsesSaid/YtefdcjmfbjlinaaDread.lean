/- The document's Read. -/
import Derived.Test.YtefdcjmfbjlinaaDread0
namespace Go.Proofs.Ytefdcjmfbjlinaa.Sc
open Go.RowKit Go.Shelf Go.Maps

def gotO (v : Value) (a e : Int) : Obj := .cells #[v, .int .i64 a, .int .i64 e] 46 (0, 0)
def DReadPost (res : List Tsk × Nat × Nat) (w : World) (r : Ending) (w' : World) : Prop :=
  ∃ v, r = .returned (.agg #[v, .int .i64 res.2.1, .int .i64 res.2.2]) ∧ RowS w' w.heap.size v res.1 ∧ Keeps [] w w'

theorem got_set {w : World} {G : Nat} {v0 : Value} {a0 e0 : Int} (h : w.heap[G]? = some (gotO v0 a0 e0)) (v : Value) (a e : Int) : (((w.setCell ⟨G, 0, none⟩ v).setCell ⟨G, 1, none⟩ (.int .i64 a)).setCell ⟨G, 2, none⟩ (.int .i64 e)).heap[G]? = some (gotO v a e) := by
  have h1 := blk_set_same h 0 v
  have h2 := blk_set_same h1 1 (.int .i64 a)
  have h3 := blk_set_same h2 2 (.int .i64 e)
  rw [h3]
  simp [gotO]
theorem RowS.keepsB {F : List Nat} {W W' : World} {base : Nat} {v : Value} {xs : List Tsk} (h : RowS W base v xs) (k : Keeps F W W') (hF : ∀ g, v.ownBlock = some g → g ∉ F) : RowS W' base v xs := by
  refine ⟨h.1, ?_⟩
  rcases h.2 with h2 | ⟨g, cap, cur, hv, h1, h2, h3⟩
  · exact .inl h2
  · exact .inr ⟨g, cap, cur, hv, h1, k.blk h2 (hF g (by rw [hv]; rfl)), h3⟩
theorem got_keeps {F : List Nat} {w0 w : World} {G : Nat} (h : Keeps F w0 w) (hG : w0.heap.size ≤ G) (v : Value) (a e : Int) : Keeps F w0 (((w.setCell ⟨G, 0, none⟩ v).setCell ⟨G, 1, none⟩ (.int .i64 a)).setCell ⟨G, 2, none⟩ (.int .i64 e)) :=
  ((h.setCell G 0 _ (.inr hG)).setCell G 1 _ (.inr hG)).setCell G 2 _ (.inr hG)
set_option maxHeartbeats 4000000 in
set_option maxRecDepth 100000 in
theorem dread_any (s : ByteArray) (hs : s.size ≤ 100000) (w : World) : Calls Try.prog 20 #[.string s] w (DReadPost (readT s.data.toList) w) := by
  obtain ⟨i0, hi, hz0, hz1, hz2⟩ := info_parts infoTsk
  have hsl : s.data.toList.length = s.size := by simp
  have HSL := Lib.hid hsl
  have hwf : ∀ t ∈ (eachL s.data.toList).1, WfT t := fun t ht => A.tok_wf ht
  have hln := eachL_len s.data.toList
  obtain ⟨ts, hts⟩ : ∃ ts, (eachL s.data.toList).1 = ts := ⟨_, rfl⟩
  obtain ⟨en, hen⟩ : ∃ en, (eachL s.data.toList).2 = en := ⟨_, rfl⟩
  have hres : readT s.data.toList = if en < s.size then ([], en, 10) else rd s.size ts := by
    unfold readT lexL
    rw [hts, hen, hsl]
    by_cases h : en < s.size <;> simp [h]
  rw [hts] at hwf hln
  have HWF := Lib.hid hwf
  rw [hsl] at hln
  have HLN := Lib.hid hln
  have HRES := Lib.hid hres
  have HTS := Lib.hid hts
  have HEN := Lib.hid hen
  clear hwf hln hres hts hen hsl
  go_enter Try.func20, Try.ntmps20
  go_wp2_with fail
  have hG0 := blk_new w (gotO (.slice none 0 0) 0 0)
  obtain ⟨G, hG⟩ : ∃ G, G = w.heap.size := ⟨_, rfl⟩
  have K0 : Keeps [] w (w.alloc (gotO (.slice none 0 0) 0 0)) := (Keeps.refl _ _).alloc _
  have hz0' : (w.alloc (gotO (.slice none 0 0) 0 0)).heap.size = G + 1 := by simp [hG]
  rw [← hG] at hG0 ⊢
  have HG := Lib.hid hG
  have HK0 := Lib.hid K0
  have HG0 := Lib.hid hG0
  have HZ0 := Lib.hid hz0'
  clear K0 hG hG0 hz0'
  change Calls _ _ _ (w.alloc (gotO (.slice none 0 0) 0 0)) _
  generalize w.alloc (gotO (.slice none 0 0) 0 0) = w0 at HG0 HK0 HZ0 ⊢
  refine (A.deach_any s (by omega) w0).mono ?_
  rintro r w1 ⟨v, rfl, hrow, K1⟩
  rw [HTS.out] at hrow
  rw [HEN.out]
  obtain ⟨A, cap, rfl, hcap, hAb, hTk⟩ := row_tk hrow
  have HG1 := Lib.hid (K1.blk HG0.out (by simp))
  have HK1 := Lib.hid (HK0.out.trans K1)
  have HTk := Lib.hid hTk
  have hAb' : ∀ a, A = some a → G < a.block ∧ a.block < w1.heap.size := fun a ha => by have := hAb a ha; have := HZ0.out; omega
  have HAB := Lib.hid hAb'
  have hGs : G < w1.heap.size := blk_lt HG1.out
  have HGS := Lib.hid hGs
  clear hrow K1 hTk hAb hAb' HG0 HK0 HZ0 hGs
  go_upto_region 2 with (fail)
  have hE := blk_new w1 (.cells #[.slice A ts.length cap, .int .i64 (en : Nat)] 63 (0, 0))
  obtain ⟨E, hEe⟩ : ∃ E, E = w1.heap.size := ⟨_, rfl⟩
  have K2 : Keeps [] w1 (w1.alloc (.cells #[.slice A ts.length cap, .int .i64 (en : Nat)] 63 (0, 0))) := (Keeps.refl _ _).alloc _
  have hz2' : (w1.alloc (.cells #[.slice A ts.length cap, .int .i64 (en : Nat)] 63 (0, 0))).heap.size = E + 1 := by simp [hEe]
  rw [← hEe] at hE ⊢
  have HAE := Lib.hid hEe
  have HG2 := Lib.hid (K2.blk HG1.out (by simp))
  have HTk2 := Lib.hid (HTk.out.keeps K2 (by simp))
  have HK2 := Lib.hid (HK1.out.trans K2)
  have HE := Lib.hid hE
  have HZ2 := Lib.hid hz2'
  clear hE hEe K2 hz2' HG1 HTk HK1
  change Code.wp _ _ _ _ (w1.alloc (.cells #[.slice A ts.length cap, .int .i64 (en : Nat)] 63 (0, 0)))
  generalize (w1.alloc (.cells #[.slice A ts.length cap, .int .i64 (en : Nat)] 63 (0, 0))) = w2 at HG2 HTk2 HK2 HE HZ2 ⊢
  obtain ⟨g0, g1, g2, gf0, gf1, gf2⟩ := facts3 HG2.out
  obtain ⟨e0, e1, ef0, ef1⟩ := facts2 HE.out
  by_cases hlt : en < s.size
  · have hd : decide (en < s.size) = true := by simpa using hlt
    have hres := HRES.out
    rw [if_pos hlt] at hres
    have HR := Lib.hid hres
    clear hlt hres HRES
    go_wp2
    have hgs := got_set HG2.out (.slice none 0 0) ((en : Nat)) (10)
    have hkk := got_keeps (G := G) HK2.out (by have := HG.out; omega) (.slice none 0 0) ((en : Nat)) (10)
    generalize (((w2.setCell ⟨G, 0, none⟩ (.slice none 0 0)).setCell ⟨G, 1, none⟩ (.int .i64 ((en : Nat)))).setCell ⟨G, 2, none⟩ (.int .i64 (10))) = wz at hgs hkk ⊢
    obtain ⟨z0, z1, z2, -, -, -⟩ := facts3 hgs
    refine bodyPost_ret (v := .agg #[.slice none 0 0, .int .i64 ((en : Nat)), .int .i64 (10)]) (by simp [results, Try.results20, go_sem, z0, z1, z2]) rfl ?_
    rw [HR.out]
    exact ⟨_, rfl, World.ownsRow_nil _ _ _ _, hkk⟩
  · have hd : decide (en < s.size) = false := by simpa using hlt
    have hres := HRES.out
    rw [if_neg hlt] at hres
    have HRS := Lib.hid hres
    clear hlt hres HRES
    go_wp2_with fail
    have hR3 := blk_new w2 (rdD A ts.length cap 0 s.size)
    obtain ⟨R, hRd⟩ : ∃ R, R = w2.heap.size := ⟨_, rfl⟩
    have K3 : Keeps [] w2 (w2.alloc (rdD A ts.length cap 0 s.size)) := (Keeps.refl _ _).alloc _
    rw [← hRd] at hR3 ⊢
    have hz3 : (w2.alloc (rdD A ts.length cap 0 s.size)).heap.size = R + 1 := by simp [hRd]
    have HZ3 := Lib.hid hz3
    have hwR : w.heap.size ≤ R := by have := HK2.out.size; omega
    have hGR : G < R := by have := blk_lt HG2.out; omega
    have HG3 := Lib.hid (K3.blk HG2.out (by simp))
    have HTk3 := Lib.hid (HTk2.out.keeps K3 (by simp))
    have HK3 := Lib.hid (HK2.out.trans K3)
    have HR3 := Lib.hid hR3
    have hAR : ∀ a, A = some a → a.block ≠ R ∧ a.block < R := fun a ha => by have := (HAB.out a ha).2; have := HAE.out; have := HZ2.out; omega
    have HAR := Lib.hid hAR
    clear hRd hR3 K3 hz3 hAR g0 g1 g2 gf0 gf1 gf2 e0 e1 ef0 ef1 HG2 HTk2 HK2 HE HZ2 HAE HAB HGS
    change Code.wp _ _ _ _ (w2.alloc (rdD A ts.length cap 0 s.size))
    generalize (w2.alloc (rdD A ts.length cap 0 s.size)) = w3 at HG3 HTk3 HK3 HR3 HZ3 ⊢
    go_loopg [5] (ts.length) (fun gh ov wr => ∃ (k : Nat) (pre : List Tsk), ts.length - k ≤ gh ∧ k ≤ ts.length ∧ pre.length ≤ k ∧ rd s.size ts = joinR pre (rd s.size (ts.drop k)) ∧ RowS wr (R + 1) ov pre ∧ wr.heap[R]? = some (rdD A ts.length cap k s.size) ∧ Keeps [R] w3 wr)
    case atStart => exact ⟨0, [], by omega, by omega, by simp, by rw [List.drop_zero, joinR_nil_rd _ _ _ (Nat.le_refl _)], World.ownsRow_nil _ _ _ _, HR3.out, Keeps.refl _ _⟩
    case round =>
      obtain ⟨k, pre, hgh, hk, hpk, hrd, hrow, hR, hK⟩ := hrel
      have HRD := Lib.hid hrd
      have HROW := Lib.hid hrow
      have HR := Lib.hid hR
      have HK := Lib.hid hK
      obtain ⟨L, hL⟩ : ∃ L, ts.length = L := ⟨_, rfl⟩
      obtain ⟨r0, r1, r2, rf0, rf1, rf2⟩ := facts3 hR
      rw [hL] at r0
      have HL := Lib.hid hL
      clear hrd hrow hR hK HR3 hL
      by_cases hlt : k < L
      · have hdk : decide (k < L) = true := by simpa using hlt
        go_wp2_with fail
        go_quiet (fail)
        have K4 : Keeps [] wr (wr.drewN nq) := (Keeps.refl _ _).drewN _
        have HR4 := Lib.hid (K4.blk HR.out (by simp))
        have HROW4 := Lib.hid (HROW.out.keeps K4 (by simp))
        have HK4 := Lib.hid (HK.out.trans (K4.mono (by simp)))
        clear K4 r0 r1 r2 rf0 rf1 rf2 HR HROW HK hdk
        go_wp2_with fail
        generalize wr.drewN nq = w4 at HR4 HROW4 HK4 ⊢
        have hARf : ∀ a, A = some a → a.block ∉ [R] := fun a ha => by have := (HAR.out a ha).1; simpa using this
        have HARF := Lib.hid hARf
        clear hARf
        refine (kindD_any R A cap k s.size ts _ HR4.out (HTk3.out.keeps HK4.out HARF.out)).mono ?_
        rintro r w5 ⟨rfl, K5⟩
        have HR5 := Lib.hid (K5.blk HR4.out (by simp))
        have HROW5 := Lib.hid (HROW4.out.keeps K5 (by simp))
        have HK5 := Lib.hid (HK4.out.trans (K5.mono (by simp)))
        clear HR4 HROW4 HK4 K5
        have hltt : k < ts.length := by have := HL.out; omega
        obtain ⟨t, ht⟩ : ∃ t, ts[k]? = some t := ⟨ts[k], by simp [hltt]⟩
        have hht := hereT_in (e := s.size) ht
        have hd := drop_cons ht
        have HD := Lib.hid hd
        rw [hht]
        clear hht hd ht
        by_cases hk4 : t.kind = 4
        · rw [hk4]
          have hrd2 : rd s.size ts = joinR pre (rd s.size (ts.drop (k + 1))) := by
            rw [HRD.out, HD.out, rd_line _ hk4]
          have HRD2 := Lib.hid hrd2
          obtain ⟨r0, r1, r2, rf0, rf1, rf2⟩ := facts3 HR5.out
          have hkl : (k : Int) ≤ 100000 := by have := HLN.out; omega
          clear hk4 hrd2
          go_wp2
          go_roundg (ts.length - (k + 1))
          case rel => exact ⟨k + 1, pre, Nat.le_refl _, by omega, by omega, HRD2.out, HROW5.out.keeps ((Keeps.refl [R] _).setCell R 1 _ (.inl (by simp))) (by simp), rdD_step HR5.out, HK5.out.setCell R 1 _ (.inl (by simp))⟩
          case measure => omega
        · have hne : (((t.kind : Nat) : Int) == 4) = false := by simp; omega
          have HK4' := Lib.hid hk4
          clear hk4
          go_wp2_with fail
          obtain ⟨T, hT⟩ : ∃ T, T = w5.heap.size := ⟨_, rfl⟩
          have hx6 := blk_new w5 (tskO ⟨⟨#[]⟩, 0, 0, 0, 0, 0, 0⟩)
          have K6 : Keeps [] w5 (w5.alloc (tskO ⟨⟨#[]⟩, 0, 0, 0, 0, 0, 0⟩)) := (Keeps.refl _ _).alloc _
          have hz6 : (w5.alloc (tskO ⟨⟨#[]⟩, 0, 0, 0, 0, 0, 0⟩)).heap.size = T + 1 := by simp [hT]
          rw [← hT] at hx6 ⊢
          have hRT : R < T := by have := blk_lt HR5.out; omega
          have hT3 : w3.heap.size ≤ T := by have := HK5.out.size; omega
          have HT := Lib.hid hT
          have HZ6 := Lib.hid hz6
          have HX6 := Lib.hid hx6
          have HR6 := Lib.hid (K6.blk HR5.out (by simp))
          have HROW6 := Lib.hid (HROW5.out.keeps K6 (by simp))
          have HK6 := Lib.hid (HK5.out.trans (K6.mono (by simp)))
          have HOB := Lib.hid (fun g (hg : u5.ownBlock = some g) => World.ownsRow.lt HROW5.out g hg)
          clear hT hz6 hx6 K6 HR5 HROW5 HK5
          change Calls _ _ _ (w5.alloc (tskO ⟨⟨#[]⟩, 0, 0, 0, 0, 0, 0⟩)) _
          generalize w5.alloc (tskO ⟨⟨#[]⟩, 0, 0, 0, 0, 0, 0⟩) = w6 at HX6 HZ6 HR6 HROW6 HK6 ⊢
          refine (dtask_any R T A cap k s.size ts _ w6 HR6.out HX6.out (by omega) (HTk3.out.keeps HK6.out HARF.out) (fun a ha => ⟨(HAR.out a ha).1, by have := (HAR.out a ha).2; omega⟩) (by omega) (by have := HLN.out; omega) HWF.out).mono ?_
          rintro r w7 ⟨x, o, k3, rfl, hox, htl, hk3, hR7, hX7, K7⟩
          have HOX := Lib.hid hox
          have HTL := Lib.hid htl
          cases o with
          | none =>
            simp only [Option.isSome_none]
            have HR7 := Lib.hid hR7
            have HK7 := Lib.hid (HK6.out.andThen K7 (by intro g hg; simp at hg; rcases hg with rfl | rfl; exact .inl (by simp); exact .inr hT3))
            clear hox htl hR7 hX7 K7 HR6 HROW6 HK6 HX6 HZ6
            go_wp2_with fail
            refine (placeD_any R A cap k3 s.size ts _ HR7.out (HTk3.out.keeps HK7.out HARF.out)).mono ?_
            rintro r w8 ⟨rfl, K8⟩
            have hpl := place_here ts k3 s.size
            obtain ⟨at7, ha7⟩ : ∃ a, (hereT ts k3 s.size).at_ = a := ⟨_, rfl⟩
            rw [ha7] at hpl ⊢
            have hrr : readT s.data.toList = ([], at7, 10) := by
              rw [HRS.out, HRD.out, HD.out, rd_none _ HK4'.out (by rw [← HD.out]; exact HTL.out), hpl]
              rfl
            have HRR := Lib.hid hrr
            have HG8 := Lib.hid ((HK7.out.trans (K8.mono (by simp))).blk HG3.out (by simp; omega))
            have HK8 := Lib.hid (HK3.out.andThen (HK7.out.trans (K8.mono (by simp))) (by intro g hg; simp at hg; subst hg; exact .inr hwR))
            clear hpl ha7 hrr K8 HR7 HK7
            obtain ⟨g0, g1, g2, gf0, gf1, gf2⟩ := facts3 HG8.out
            go_wp2
            have hgs := got_set HG8.out (.slice none 0 0) ((at7 : Nat)) (10)
            have hkk := got_keeps (G := G) HK8.out (by have := HG.out; omega) (.slice none 0 0) ((at7 : Nat)) (10)
            generalize (((w8.setCell ⟨G, 0, none⟩ (.slice none 0 0)).setCell ⟨G, 1, none⟩ (.int .i64 ((at7 : Nat)))).setCell ⟨G, 2, none⟩ (.int .i64 (10))) = wz at hgs hkk ⊢
            obtain ⟨z0, z1, z2, -, -, -⟩ := facts3 hgs
            refine bodyPost_ret (v := .agg #[.slice none 0 0, .int .i64 ((at7 : Nat)), .int .i64 (10)]) (by simp [results, Try.results20, go_sem, z0, z1, z2]) rfl ?_
            rw [HRR.out]
            exact ⟨_, rfl, World.ownsRow_nil _ _ _ _, hkk⟩
          | some y =>
            obtain rfl := HOX.out y rfl
            simp only [Option.isSome_some]
            have hrd3 : rd s.size ts = joinR (pre ++ [y]) (rd s.size (ts.drop k3)) := by
              rw [HRD.out, HD.out, rd_some _ HK4'.out (by rw [← HD.out]; exact HTL.out), joinR_step]
            have hlen3 : (ts.drop k3).length < (ts.drop (k + 1)).length := taskL_some (by rw [← HD.out]; exact HTL.out)
            simp at hlen3
            have HRD3 := Lib.hid hrd3
            have hpk' : pre.length ≤ 100000 := by have := HLN.out; omega
            have HROW7 := Lib.hid (HROW6.out.keepsB K7 (fun g hg => by have := HOB.out g hg; have := HT.out; simp; omega))
            have HR7 := Lib.hid hR7
            have HX7 := Lib.hid hX7
            have HK7 := Lib.hid (HK6.out.andThen K7 (by intro g hg; simp at hg; rcases hg with rfl | rfl; exact .inl (by simp); exact .inr hT3))
            obtain ⟨t0, t1, t2, t3, t4, t5, t6, -, -, -, -, -, -, -⟩ := facts7 hX7
            have hob7 : ∀ g, u5.ownBlock = some g → R + 1 ≤ g ∧ g < w7.heap.size := fun g hg => World.ownsRow.lt HROW7.out g hg
            have hnew : (w7.alloc (tskO y)).heap[w7.heap.size]? = some (tskO y) := blk_new _ _
            have hR8 := blk_alloc hR7 (tskO y)
            have hown8 : World.ownsRow (w7.alloc (tskO y)) (R + 1) 33 7 u5 pre.length (pre.flatMap cellsTsk) := HROW7.out.alloc _
            have HNEW := Lib.hid hnew
            have HR8 := Lib.hid hR8
            have HOWN8 := Lib.hid hown8
            have HOB7 := Lib.hid hob7
            have hR7l : R < w7.heap.size := blk_lt hR7
            clear hrd3 HTL HOX hox htl hR7 hX7 K7 hnew hR8 hown8 hob7 HR6 HROW6 HK6 HX6 HZ6 HR7
            go_wp2_with (at_builtin; refine wpList_append_own _ rfl _ _ 26 rfl (R + 1) 33 i0 _ 7 64 Try.underlying26 hi hz0 hz1 hz2 rfl (by decide) u5 pre.length _ rfl HOWN8.out ⟨w7.heap.size, 0, none⟩ 1 1 (cellsTsk y) rfl rfl (World.news_of_block HNEW.out) (by simp [cellsTsk, Value.oneCell']) (by unfold maxLen; omega) (by omega) (by simp; omega) ?_; intro v' w9 hown9 hgrow9 _; have HOWN9 := Lib.hid hown9; have HGROW9 := Lib.hid hgrow9; clear hown9 hgrow9)
            go_roundg (ts.length - k3)
            case rel =>
              refine ⟨k3, pre ++ [y], Nat.le_refl _, hk3, by simp; omega, HRD3.out, ?_, blk_grown HGROW9.out HR8.out (fun e => by have := HOB7.out R e; omega), ?_⟩
              · unfold RowS
                rw [List.length_append, List.flatMap_append]
                simpa using HOWN9.out
              · exact Keeps.grown (HK7.out.alloc (tskO y)) HGROW9.out (fun g hg => .inr (by have := HOB7.out g hg; have := HZ3.out; omega))
            case measure => omega
      · have hdk : decide (k < L) = false := by simpa using hlt
        go_wp2_with fail
        go_quiet (fail)
        have hko : k = ts.length := by have := HL.out; omega
        have hrr : readT s.data.toList = (pre, s.size, 0) := by
          rw [HRS.out, HRD.out, hko, List.drop_length, rd_nil]
          simp [joinR]
        have HRR := Lib.hid hrr
        have HG4 := Lib.hid (((Keeps.refl [] wr).drewN nq).blk (HK.out.blk HG3.out (by simp; omega)) (by simp))
        have HK4 := Lib.hid ((HK3.out.andThen HK.out (by intro g hg; simp at hg; subst hg; exact .inr hwR)).drewN nq)
        have HROW4 := Lib.hid (HROW.out.keeps ((Keeps.refl [] wr).drewN nq) (by simp))
        clear hko hrr hlt hdk r0 r1 r2 rf0 rf1 rf2 HR HROW HK
        generalize wr.drewN nq = w4 at HG4 HK4 HROW4 ⊢
        obtain ⟨A9, cap9, hu5, -, -, -⟩ := row_tsk HROW4.out
        rw [hu5] at HROW4
        subst hu5
        obtain ⟨g0, g1, g2, gf0, gf1, gf2⟩ := facts3 HG4.out
        go_wp2
        have hgs := got_set HG4.out (.slice A9 pre.length cap9) ((s.size : Nat)) (0)
        have hkk := got_keeps (G := G) HK4.out (by have := HG.out; omega) (.slice A9 pre.length cap9) ((s.size : Nat)) (0)
        have hkr : RowS (((w4.setCell ⟨G, 0, none⟩ (.slice A9 pre.length cap9)).setCell ⟨G, 1, none⟩ (.int .i64 ((s.size : Nat)))).setCell ⟨G, 2, none⟩ (.int .i64 (0))) w.heap.size (.slice A9 pre.length cap9) pre := (HROW4.out.keepsB (F := [G]) ((((Keeps.refl _ _).setCell G 0 _ (.inl (by simp))).setCell G 1 _ (.inl (by simp))).setCell G 2 _ (.inl (by simp))) (fun g hg => by have := World.ownsRow.lt HROW4.out g hg; simp; omega)).lower (by omega)
        generalize (((w4.setCell ⟨G, 0, none⟩ (.slice A9 pre.length cap9)).setCell ⟨G, 1, none⟩ (.int .i64 ((s.size : Nat)))).setCell ⟨G, 2, none⟩ (.int .i64 (0))) = wz at hgs hkk hkr ⊢
        obtain ⟨z0, z1, z2, -, -, -⟩ := facts3 hgs
        refine bodyPost_ret (v := .agg #[.slice A9 pre.length cap9, .int .i64 ((s.size : Nat)), .int .i64 (0)]) (by simp [results, Try.results20, go_sem, z0, z1, z2]) rfl ?_
        rw [HRR.out]
        exact ⟨_, rfl, hkr, hkk⟩
end Go.Proofs.Ytefdcjmfbjlinaa.Sc
