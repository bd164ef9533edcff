/- The document's reader: a line's task. -/
import Derived.Test.YtefdcjmfbjlinaaDfield
namespace Go.Proofs.Ytefdcjmfbjlinaa.Sc
open Go.RowKit Go.Shelf Go.Maps

def DTaskPost (R T : Nat) (A : Option Addr) (cap k e : Nat) (ts : List Tk) (w : World) (r : Ending) (w' : World) : Prop :=
  ∃ (x : Tsk) (o : Option Tsk) (k' : Nat), r = .returned (.bool o.isSome) ∧ (∀ y, o = some y → y = x) ∧ taskL (ts.drop k) = (o, ts.drop k') ∧ k' ≤ ts.length ∧ w'.heap[R]? = some (rdD A ts.length cap k' e) ∧ w'.heap[T]? = some (tskO x) ∧ Keeps [R, T] w w'

set_option maxHeartbeats 4000000 in
set_option maxRecDepth 100000 in
theorem dtask_any (R T : Nat) (A : Option Addr) (cap k e : Nat) (ts : List Tk) (x0 : Tsk) (w : World) (hR : w.heap[R]? = some (rdD A ts.length cap k e)) (hT : w.heap[T]? = some (tskO x0)) (hRT : R ≠ T) (hTk : RowTk w A ts) (hA : ∀ a, A = some a → a.block ≠ R ∧ a.block ≠ T) (hk : k ≤ ts.length) (hl : ts.length ≤ 100000) (hw : ∀ t ∈ ts, WfT t) :
    Calls Try.prog 30 #[.pointer (some ⟨R, 0, none⟩), .pointer (some ⟨T, 0, none⟩)] w (DTaskPost R T A cap k e ts w) := by
  have HW := Lib.hid hw
  have HTW := Lib.hid hTk
  have hAR : ∀ a, A = some a → a.block ∉ [R, T] := fun a ha => by have := hA a ha; simp; omega
  have HAR := Lib.hid hAR
  have HR := Lib.hid hR
  have HT := Lib.hid hT
  have hTR := Ne.symm hRT
  clear hw hTk hA hAR hR hT
  go_enter Try.func30, Try.ntmps30
  go_wp2_with fail
  refine (kindD_any R A cap k e ts _ HR.out HTW.out).mono ?_
  rintro r w1 ⟨rfl, K1⟩
  have HR1 := Lib.hid (K1.blk HR.out (by simp))
  have HT1 := Lib.hid (K1.blk HT.out (by simp))
  have HK1 := Lib.hid (K1.mono (G := [R, T]) (by simp))
  clear HR HT K1
  by_cases hk1 : (hereT ts k e).kind = 1
  · rw [hk1]
    go_wp2_with fail
    refine (textD_any R A cap k e ts _ HR1.out (HTW.out.keeps HK1.out HAR.out)).mono ?_
    rintro r w2 ⟨rfl, K2⟩
    have HR2 := Lib.hid (K2.blk HR1.out (by simp))
    have HT2 := Lib.hid (K2.blk HT1.out (by simp))
    have HK2 := Lib.hid (HK1.out.trans (K2.mono (by simp)))
    clear HR1 HT1 HK1 K2
    obtain ⟨tx, htx⟩ : ∃ tx, (hereT ts k e).text = tx := ⟨_, rfl⟩
    rw [htx]
    have HTX := Lib.hid htx
    have HK1' := Lib.hid hk1
    clear htx hk1
    by_cases ht : tx = [116, 97, 115, 107]
    · have htb : (tx == [116, 97, 115, 107]) = true := by simpa using ht
      have HTT := Lib.hid ht
      clear ht
      obtain ⟨r0, r1, r2, rf0, rf1, rf2⟩ := facts3 HR2.out
      have hkl : (k : Int) ≤ 100000 := by omega
      go_wp2_with fail
      have K3 : Keeps [R, T] w2 (w2.setCell ⟨R, 1, none⟩ (.int .i64 ((k : Int) + 1))) := (Keeps.refl _ _).setCell R 1 _ (.inl (by simp))
      have HR3 := Lib.hid (rdD_step HR2.out)
      have HT3 := Lib.hid (blk_set_other HT2.out ⟨R, 1, none⟩ (.int .i64 ((k : Int) + 1)) hRT)
      have HK3 := Lib.hid (HK2.out.trans K3)
      clear r0 r1 r2 rf0 rf1 rf2 HR2 HT2 HK2 K3
      generalize w2.setCell ⟨R, 1, none⟩ (.int .i64 ((k : Int) + 1)) = w3 at HR3 HT3 HK3 ⊢
      refine (kindD_any R A cap (k + 1) e ts _ HR3.out (HTW.out.keeps HK3.out HAR.out)).mono ?_
      rintro r w4 ⟨rfl, K4⟩
      have HR4 := Lib.hid (K4.blk HR3.out (by simp))
      have HT4 := Lib.hid (K4.blk HT3.out (by simp))
      have HK4 := Lib.hid (HK3.out.trans (K4.mono (by simp)))
      clear HR3 HT3 HK3 K4
      by_cases hn1 : (hereT ts (k + 1) e).kind = 1
      · rw [hn1]
        have hyes := task_yes (k := k) (e := e) (by rw [HTX.out, HTT.out]; rfl) hn1
        have HYES := Lib.hid hyes
        clear hn1 hyes
        go_wp2_with fail
        refine (textD_any R A cap (k + 1) e ts _ HR4.out (HTW.out.keeps HK4.out HAR.out)).mono ?_
        rintro r w5 ⟨rfl, K5⟩
        have HR5 := Lib.hid (K5.blk HR4.out (by simp))
        have HT5 := Lib.hid (K5.blk HT4.out (by simp))
        have HK5 := Lib.hid (HK4.out.trans (K5.mono (by simp)))
        clear HR4 HT4 HK4 K5
        obtain ⟨nm, hnm⟩ : ∃ nm : ByteArray, nm = ⟨(hereT ts (k + 1) e).text.toArray⟩ := ⟨_, rfl⟩
        rw [← hnm]
        have HNM := Lib.hid hnm
        clear hnm
        obtain ⟨r0, r1, r2, rf0, rf1, rf2⟩ := facts3 HR5.out
        obtain ⟨t0, -, -, -, -, -, -, tf0, -, -, -, -, -, -⟩ := facts7 HT5.out
        go_upto_region 7 with (fail)
        have K6 : Keeps [R, T] w5 (w5.setCell ⟨T, 0, none⟩ (.string nm)) := (Keeps.refl _ _).setCell T 0 _ (.inl (by simp))
        have hT6 : (w5.setCell ⟨T, 0, none⟩ (.string nm)).heap[T]? = some (tskO { x0 with nm := nm }) := by
          rw [blk_set_same HT5.out 0 (.string nm)]
          simp [tskO, cellsTsk]
        have HT6 := Lib.hid hT6
        have HR6 := Lib.hid (blk_set_other HR5.out ⟨T, 0, none⟩ (.string nm) hTR)
        have HK6 := Lib.hid (HK5.out.trans K6)
        clear r0 r1 r2 rf0 rf1 rf2 t0 tf0 hT6 K6 HR5 HT5 HK5
        generalize w5.setCell ⟨T, 0, none⟩ (.string nm) = w6 at HR6 HT6 HK6 ⊢
        obtain ⟨r0, r1, r2, rf0, rf1, rf2⟩ := facts3 HR6.out
        go_upto_region 8 with (fail)
        have K7 : Keeps [R, T] w6 (w6.setCell ⟨R, 1, none⟩ (.int .i64 ((k : Int) + 1 + 1))) := (Keeps.refl _ _).setCell R 1 _ (.inl (by simp))
        have hR7 : (w6.setCell ⟨R, 1, none⟩ (.int .i64 ((k : Int) + 1 + 1))).heap[R]? = some (rdD A ts.length cap (k + 1 + 1) e) := by
          have h := rdD_step HR6.out
          rw [show (((k + 1 : Nat) : Int) + 1) = (k : Int) + 1 + 1 by omega] at h
          exact h
        have HR7 := Lib.hid hR7
        have HT7 := Lib.hid (blk_set_other HT6.out ⟨R, 1, none⟩ (.int .i64 ((k : Int) + 1 + 1)) hRT)
        have HK7 := Lib.hid (HK6.out.trans K7)
        clear r0 r1 r2 rf0 rf1 rf2 HR6 HT6 HK6 K7 hR7
        generalize w6.setCell ⟨R, 1, none⟩ (.int .i64 ((k : Int) + 1 + 1)) = w7 at HR7 HT7 HK7 ⊢
        go_wp2_with fail
        have hp5 : ((w7.alloc (thO fun _ => false)).alloc (nO fun _ => 0)).heap[w7.heap.size]? = some (thO fun _ => false) := blk_alloc (blk_new _ _) _
        have hp6 : ((w7.alloc (thO fun _ => false)).alloc (nO fun _ => 0)).heap[w7.heap.size + 1]? = some (nO fun _ => 0) := by
          have h := blk_new (w7.alloc (thO fun _ => false)) (nO fun _ => 0)
          rw [show (w7.alloc (thO fun _ => false)).heap.size = w7.heap.size + 1 by simp] at h
          exact h
        have K8 : Keeps [R, T] w7 ((w7.alloc (thO fun _ => false)).alloc (nO fun _ => 0)) := ((Keeps.refl _ _).alloc _).alloc _
        obtain ⟨P5, hP⟩ : ∃ P5, P5 = w7.heap.size := ⟨_, rfl⟩
        rw [← hP] at hp5 hp6 ⊢
        have hPR : R < P5 := by have := blk_lt HR7.out; omega
        have hPT : T < P5 := by have := blk_lt HT7.out; omega
        have hPw : w.heap.size ≤ P5 := by have := HK7.out.size; omega
        have HR8 := Lib.hid (blk_alloc (blk_alloc HR7.out (thO fun _ => false)) (nO fun _ => 0))
        have HT8 := Lib.hid (blk_alloc (blk_alloc HT7.out (thO fun _ => false)) (nO fun _ => 0))
        have HK8 := Lib.hid (HK7.out.trans K8)
        have HP5 := Lib.hid hp5
        have HP6 := Lib.hid hp6
        clear hp5 hp6 K8 hP HR7 HT7 HK7
        change Code.wp _ _ _ _ ((w7.alloc (thO fun _ => false)).alloc (nO fun _ => 0))
        generalize ((w7.alloc (thO fun _ => false)).alloc (nO fun _ => 0)) = w8 at HR8 HT8 HK8 HP5 HP6 ⊢
        go_loopg [7] (ts.length) (fun gh _ wr => ∃ (k1 : Nat) (th : Nat → Bool) (n : Nat → Int), ts.length - k1 ≤ gh ∧ k1 ≤ ts.length ∧ taskL (ts.drop k) = fieldsL (ts.drop k1) (xOf nm n th) (fun j => !th j) ∧ (∀ i, 0 ≤ n i) ∧ wr.heap[R]? = some (rdD A ts.length cap k1 e) ∧ wr.heap[T]? = some (tskO { x0 with nm := nm }) ∧ wr.heap[P5]? = some (thO th) ∧ wr.heap[P5 + 1]? = some (nO n) ∧ Keeps [R, T] w wr)
        case atStart => exact ⟨k + 1 + 1, _, _, by omega, by have := HYES.out.1; omega, by rw [HNM.out]; exact HYES.out.2, fun _ => by simp, HR8.out, HT8.out, HP5.out, HP6.out, HK8.out⟩
        case round =>
          obtain ⟨k1, th, n, hgh, hk1, hrel, hn0, hR9, hT9, hp5, hp6, hK9⟩ := hrel
          have HREL := Lib.hid hrel
          have HN0 := Lib.hid hn0
          have HR9 := Lib.hid hR9
          have HT9 := Lib.hid hT9
          have HP5 := Lib.hid hp5
          have HP6 := Lib.hid hp6
          have HK9 := Lib.hid hK9
          clear hrel hn0 hR9 hT9 hp5 hp6 hK9 HR8 HT8 HK8
          go_wp2_with fail
          refine (kindD_any R A cap k1 e ts _ HR9.out (HTW.out.keeps HK9.out HAR.out)).mono ?_
          rintro r w10 ⟨rfl, K10⟩
          have HR10 := Lib.hid (K10.blk HR9.out (by simp))
          have HT10 := Lib.hid (K10.blk HT9.out (by simp))
          have HA10 := Lib.hid (K10.blk HP5.out (by simp))
          have HB10 := Lib.hid (K10.blk HP6.out (by simp))
          have HK10 := Lib.hid (HK9.out.trans (K10.mono (by simp)))
          clear HR9 HT9 HP5 HP6 HK9 K10
          by_cases hkd : (hereT ts k1 e).kind = 1
          · rw [hkd]
            have htt := here_some (t := hereT ts k1 e) rfl (.inl (by rw [hkd]; decide))
            have hlt := lt_some htt
            have HTT2 := Lib.hid htt
            have HKD := Lib.hid hkd
            clear htt hkd
            go_wp2_with fail
            refine (textD_any R A cap k1 e ts _ HR10.out (HTW.out.keeps HK10.out HAR.out)).mono ?_
            rintro r w11 ⟨rfl, K11⟩
            obtain ⟨tx3, htx3⟩ : ∃ tx, (hereT ts k1 e).text = tx := ⟨_, rfl⟩
            rw [htx3]
            have HTX3 := Lib.hid htx3
            have HR11 := Lib.hid (K11.blk HR10.out (by simp))
            have HT11 := Lib.hid (K11.blk HT10.out (by simp))
            have HA11 := Lib.hid (K11.blk HA10.out (by simp))
            have HB11 := Lib.hid (K11.blk HB10.out (by simp))
            have HK11 := Lib.hid (HK10.out.trans (K11.mono (by simp)))
            clear htx3 HR10 HT10 HA10 HB10 HK10 K11
            go_wp2_with fail
            refine (field_any tx3 _).mono ?_
            rintro r w12 ⟨rfl, K12⟩
            have HR12 := Lib.hid (K12.blk HR11.out (by simp))
            have HT12 := Lib.hid (K12.blk HT11.out (by simp))
            have HA12 := Lib.hid (K12.blk HA11.out (by simp))
            have HB12 := Lib.hid (K12.blk HB11.out (by simp))
            have HK12 := Lib.hid (HK11.out.trans (K12.mono (by simp)))
            clear HR11 HT11 HA11 HB11 HK11 K12
            have h4 : (hereT ts k1 e).kind ≠ 4 := by rw [HKD.out]; decide
            have hbadl : ∀ (hb : fldI tx3 = none ∨ ∃ i, fldI tx3 = some i ∧ (fun j => !th j) i = false), taskL (ts.drop k) = (none, ts.drop k1) := fun hb => HREL.out.trans (fields_bad HTT2.out h4 (by rw [HTX3.out]; exact hb))
            have HBAD := Lib.hid hbadl
            have H4 := Lib.hid h4
            clear hbadl h4
            unfold fldJ
            cases hfi : fldI tx3 with
            | none =>
              simp only
              have HB1 := Lib.hid (HBAD.out (.inl hfi))
              clear hfi
              go_wp2
              go_ret
              exact ⟨_, none, k1, rfl, by simp, HB1.out, hk1, HR12.out, HT12.out, HK12.out⟩
            | some i =>
              simp only
              have hi6 := (key_fldI hfi).2
              have hi6' : (i : Int) < 6 := by omega
              have hi0 : ¬ ((i : Int) < 0) := by omega
              obtain ⟨ac, afz⟩ := th_cell HA12.out i hi6
              cases hth : th i with
              | true =>
                rw [hth] at ac
                have HB1 := Lib.hid (HBAD.out (.inr ⟨i, hfi, by simp [hth]⟩))
                clear hfi hth
                go_wp2
                go_ret
                exact ⟨_, none, k1, rfl, by simp, HB1.out, hk1, HR12.out, HT12.out, HK12.out⟩
              | false =>
                rw [hth] at ac
                have HFI := Lib.hid hfi
                have HTH := Lib.hid hth
                obtain ⟨r0, r1, r2, rf0, rf1, rf2⟩ := facts3 HR12.out
                have hk1' : (k1 : Int) ≤ 100000 := by omega
                clear hfi hth
                go_wp2_with fail
                refine (kindD_any R A cap (k1 + 1) e ts _ (rdD_step HR12.out) (HTW.out.keeps (HK12.out.trans ((Keeps.refl _ _).setCell R 1 _ (.inl (by simp)))) HAR.out)).mono ?_
                rintro r w13 ⟨rfl, K13'⟩
                have HR13 := Lib.hid (K13'.blk (rdD_step HR12.out) (by simp))
                have HT13 := Lib.hid (K13'.blk (blk_set_other HT12.out ⟨R, 1, none⟩ (.int .i64 ((k1 : Int) + 1)) hRT) (by simp))
                have HA13 := Lib.hid (K13'.blk (blk_set_other HA12.out ⟨R, 1, none⟩ (.int .i64 ((k1 : Int) + 1)) (by show R ≠ P5; omega)) (by simp))
                have HB13 := Lib.hid (K13'.blk (blk_set_other HB12.out ⟨R, 1, none⟩ (.int .i64 ((k1 : Int) + 1)) (by show R ≠ P5 + 1; omega)) (by simp))
                have HK13 := Lib.hid ((HK12.out.trans ((Keeps.refl _ _).setCell R 1 _ (.inl (by simp)))).trans (K13'.mono (by simp)))
                clear HR12 HT12 HA12 HB12 HK12 K13' r0 r1 r2 rf0 rf1 rf2 ac afz
                have hrem : (fun j => !th j) i = true := by simp [HTH.out]
                by_cases hk3 : (hereT ts (k1 + 1) e).kind = 3
                case neg =>
                  have hne : ((((hereT ts (k1 + 1) e).kind : Nat) : Int) != 3) = true := by simp; omega
                  have hno := HREL.out.trans (fields_eq HTT2.out H4.out (by rw [HTX3.out]; exact HFI.out) hrem hk3)
                  have HNO := Lib.hid hno
                  clear hk3 hno hrem
                  go_wp2
                  go_ret
                  exact ⟨_, none, k1 + 1, rfl, by simp, HNO.out, hlt, HR13.out, HT13.out, HK13.out⟩
                case pos =>
                  have HH3 := Lib.hid hk3
                  rw [hk3]
                  have hlt2 := lt_some (here_some (t := hereT ts (k1 + 1) e) rfl (.inl (by rw [hk3]; decide)))
                  obtain ⟨r0, r1, r2, rf0, rf1, rf2⟩ := facts3 HR13.out
                  have HREM := Lib.hid hrem
                  clear hk3 hrem
                  go_wp2_with fail
                  have hR14 : (w13.setCell ⟨R, 1, none⟩ (.int .i64 ((k1 : Int) + 1 + 1))).heap[R]? = some (rdD A ts.length cap (k1 + 1 + 1) e) := by
                    have h := rdD_step HR13.out
                    rw [show (((k1 + 1 : Nat) : Int) + 1) = (k1 : Int) + 1 + 1 by omega] at h
                    exact h
                  refine (kindD_any R A cap (k1 + 1 + 1) e ts _ hR14 (HTW.out.keeps (HK13.out.trans ((Keeps.refl _ _).setCell R 1 _ (.inl (by simp)))) HAR.out)).mono ?_
                  rintro r w14 ⟨rfl, K14'⟩
                  have HR14 := Lib.hid (K14'.blk hR14 (by simp))
                  have HT14 := Lib.hid (K14'.blk (blk_set_other HT13.out ⟨R, 1, none⟩ (.int .i64 ((k1 : Int) + 1 + 1)) hRT) (by simp))
                  have HA14 := Lib.hid (K14'.blk (blk_set_other HA13.out ⟨R, 1, none⟩ (.int .i64 ((k1 : Int) + 1 + 1)) (by show R ≠ P5; omega)) (by simp))
                  have HB14 := Lib.hid (K14'.blk (blk_set_other HB13.out ⟨R, 1, none⟩ (.int .i64 ((k1 : Int) + 1 + 1)) (by show R ≠ P5 + 1; omega)) (by simp))
                  have HK14 := Lib.hid ((HK13.out.trans ((Keeps.refl _ _).setCell R 1 _ (.inl (by simp)))).trans (K14'.mono (by simp)))
                  clear HR13 HT13 HA13 HB13 HK13 K14' r0 r1 r2 rf0 rf1 rf2 hR14
                  by_cases hk2 : (hereT ts (k1 + 1 + 1) e).kind = 2
                  case neg =>
                    have hne : ((((hereT ts (k1 + 1 + 1) e).kind : Nat) : Int) != 2) = true := by simp; omega
                    have hno := HREL.out.trans (fields_num HTT2.out H4.out (by rw [HTX3.out]; exact HFI.out) HREM.out HH3.out hk2)
                    have HNO := Lib.hid hno
                    clear hk2 hno
                    go_wp2
                    go_ret
                    exact ⟨_, none, k1 + 1 + 1, rfl, by simp, HNO.out, hlt2, HR14.out, HT14.out, HK14.out⟩
                  case pos =>
                    have HH2 := Lib.hid hk2
                    have hu := here_some (t := hereT ts (k1 + 1 + 1) e) rfl (.inl (by rw [hk2]; decide))
                    obtain ⟨tn, htn⟩ : ∃ tn, hereT ts (k1 + 1 + 1) e = tn := ⟨_, rfl⟩
                    have hgo := fields_go (rem := fun j => !th j) (x := xOf nm n th) HTT2.out H4.out (by rw [HTX3.out]; exact HFI.out) HREM.out HH3.out hk2
                    have HGO := Lib.hid hgo
                    have HTN := Lib.hid htn
                    rw [hk2]
                    rw [htn] at hu
                    have hlt3 := lt_some hu
                    obtain ⟨k3, hk3⟩ : ∃ k3, k1 + 1 + 1 = k3 := ⟨_, rfl⟩
                    have HK3 := Lib.hid hk3
                    rw [hk3] at hu HR14 hlt3
                    obtain ⟨b, o, rfl, hc⟩ := HTW.out.keeps HK14.out HAR.out k3 tn hu
                    have c3 := hc 3 _ rfl
                    obtain ⟨L, hL⟩ : ∃ L, ts.length = L := ⟨_, rfl⟩
                    obtain ⟨r0, r1, r2, rf0, rf1, rf2⟩ := facts3 HR14.out
                    obtain ⟨nc, nf⟩ := n_cell HB14.out i hi6
                    rw [hL] at r0 hlt3
                    have HL := Lib.hid hL
                    have HU := Lib.hid hu
                    have hlt3' : (k3 : Int) < (L : Int) := by omega
                    clear hk2 hu htn hgo hk3 hc hL HREM HH3 HH2
                    go_wp2_with fail
                    go_still_tail 13, (by kernel_rfl)
                    refine name_drew_list (w := w14) ?_
                    intro w15 K15 _
                    clear nc nf
                    have HR15 := Lib.hid (K15.blk HR14.out (by simp))
                    have HT15 := Lib.hid (K15.blk HT14.out (by simp))
                    have HA15 := Lib.hid (K15.blk HA14.out (by simp))
                    have HB15 := Lib.hid (K15.blk HB14.out (by simp))
                    have HK15 := Lib.hid (HK14.out.trans (K15.mono (by simp)))
                    clear HR14 HT14 HA14 HB14 HK14 K15 r0 r1 r2 rf0 rf1 rf2 c3
                    obtain ⟨nc, nf⟩ := n_cell HB15.out i hi6
                    go_upto_region 21 with (fail)
                    have K16 : Keeps [R, T] w (w15.setCell ⟨P5 + 1, i, none⟩ (.int .i64 (tn.num : Nat))) := HK15.out.setCell (P5 + 1) i _ (.inr (by omega))
                    have HR16 := Lib.hid (blk_set_other HR15.out ⟨P5 + 1, i, none⟩ (.int .i64 (tn.num : Nat)) (by show P5 + 1 ≠ R; omega))
                    have HT16 := Lib.hid (blk_set_other HT15.out ⟨P5 + 1, i, none⟩ (.int .i64 (tn.num : Nat)) (by show P5 + 1 ≠ T; omega))
                    have HA16 := Lib.hid (blk_set_other HA15.out ⟨P5 + 1, i, none⟩ (.int .i64 (tn.num : Nat)) (by show P5 + 1 ≠ P5; omega))
                    have HB16 := Lib.hid (n_set HB15.out i hi6 (tn.num : Nat))
                    have HK16 := Lib.hid K16
                    clear K16 nc nf HR15 HT15 HA15 HB15 HK15
                    generalize w15.setCell ⟨P5 + 1, i, none⟩ (.int .i64 (tn.num : Nat)) = w16 at HR16 HT16 HA16 HB16 HK16 ⊢
                    obtain ⟨ac, afz⟩ := th_cell HA16.out i hi6
                    go_upto_region 22 with (fail)
                    have K17 : Keeps [R, T] w (w16.setCell ⟨P5, i, none⟩ (.bool true)) := HK16.out.setCell P5 i _ (.inr hPw)
                    have HR17 := Lib.hid (blk_set_other HR16.out ⟨P5, i, none⟩ (.bool true) (by show P5 ≠ R; omega))
                    have HT17 := Lib.hid (blk_set_other HT16.out ⟨P5, i, none⟩ (.bool true) (by show P5 ≠ T; omega))
                    have HB17 := Lib.hid (blk_set_other HB16.out ⟨P5, i, none⟩ (.bool true) (by show P5 ≠ P5 + 1; omega))
                    have HA17 := Lib.hid (th_set HA16.out i hi6)
                    have HK17 := Lib.hid K17
                    clear K17 ac afz HR16 HT16 HA16 HB16 HK16
                    generalize w16.setCell ⟨P5, i, none⟩ (.bool true) = w17 at HR17 HT17 HA17 HB17 HK17 ⊢
                    obtain ⟨r0, r1, r2, rf0, rf1, rf2⟩ := facts3 HR17.out
                    have hk3' : (k3 : Int) ≤ 100000 := by have := HL.out; omega
                    go_wp2_with fail
                    go_roundg (ts.length - (k3 + 1))
                    case measure => have := HGO.out.1; have := HK3.out; have := HL.out; omega
                    refine ⟨k3 + 1, upd th i true, upd n i (tn.num : Nat), by omega, by have := HL.out; omega, ?_, ?_, rdD_step HR17.out, blk_set_other HT17.out _ _ (by show R ≠ T; omega), blk_set_other HA17.out _ _ (by show R ≠ P5; omega), blk_set_other HB17.out _ _ (by show R ≠ P5 + 1; omega), HK17.out.setCell R 1 _ (.inl (by simp))⟩
                    · rw [HREL.out, HGO.out.2, HTN.out, HK3.out, xOf_set _ _ _ _ hi6, offF_upd]
                    · intro j
                      unfold upd
                      split
                      · omega
                      · exact HN0.out j
          · have HKD := Lib.hid hkd
            have hne : ((((hereT ts k1 e).kind : Nat) : Int) == 1) = false := by simp; omega
            clear hkd
            go_wp2_with fail
            refine (kindD_any R A cap k1 e ts _ HR10.out (HTW.out.keeps HK10.out HAR.out)).mono ?_
            rintro r w11 ⟨rfl, K11⟩
            have HR11 := Lib.hid (K11.blk HR10.out (by simp))
            have HT11 := Lib.hid (K11.blk HT10.out (by simp))
            have HA11 := Lib.hid (K11.blk HA10.out (by simp))
            have HB11 := Lib.hid (K11.blk HB10.out (by simp))
            have HK11 := Lib.hid (HK10.out.trans (K11.mono (by simp)))
            clear HR10 HT10 HA10 HB10 HK10 K11
            by_cases hz : (hereT ts k1 e).kind = 0
            · rw [hz]
              have HZ := Lib.hid hz
              clear hz hne
              have hfin : taskL (ts.drop k) = ((if th 0 && th 1 && th 5 then some (⟨nm, n 0, n 1, if th 2 then n 2 else n 1, n 3, if th 4 then n 4 else 1, n 5⟩ : Tsk) else none), ts.drop k1) := by rw [HREL.out, fields_stop HW.out (.inl HZ.out), finF_xOf HN0.out]
              have HFIN := Lib.hid hfin
              clear hfin
              obtain ⟨a0, z0⟩ := th_cell HA11.out 0 (by decide)
              obtain ⟨a1, z1⟩ := th_cell HA11.out 1 (by decide)
              obtain ⟨a5, z5⟩ := th_cell HA11.out 5 (by decide)
              cases h0 : th 0 with
              | false =>
                rw [h0] at a0
                go_wp2
                go_ret
                exact ⟨_, none, k1, rfl, by simp, by rw [HFIN.out, h0]; rfl, hk1, HR11.out, HT11.out, HK11.out⟩
              | true =>
                rw [h0] at a0
                cases h1 : th 1 with
                | false =>
                  rw [h1] at a1
                  go_wp2
                  go_ret
                  exact ⟨_, none, k1, rfl, by simp, by rw [HFIN.out, h0, h1]; rfl, hk1, HR11.out, HT11.out, HK11.out⟩
                | true =>
                  rw [h1] at a1
                  cases h5 : th 5 with
                  | false =>
                    rw [h5] at a5
                    go_wp2
                    go_ret
                    exact ⟨_, none, k1, rfl, by simp, by rw [HFIN.out, h0, h1, h5]; rfl, hk1, HR11.out, HT11.out, HK11.out⟩
                  | true =>
                    rw [h5] at a5
                    rw [h0, h1, h5] at HFIN
                    go_upto_region 25 with (fail)
                    clear a0 a1 a5 z0 z1 z5
                    obtain ⟨a2, z2⟩ := th_cell HA11.out 2 (by decide)
                    cases h2 : th 2 with
                    | true =>
                      rw [h2] at a2
                      go_upto_region 27 with (fail)
                      clear a2 z2
                      obtain ⟨a4, z4⟩ := th_cell HA11.out 4 (by decide)
                      cases h4 : th 4 with
                      | true =>
                        rw [h4] at a4
                        go_upto_region 29 with (fail)
                        clear a4 z4
                        obtain ⟨nc, nf⟩ := n_cell HB11.out 0 (by decide)
                        obtain ⟨-, y1, y2, y3, y4, y5, y6, -, z1, z2, z3, z4, z5, z6⟩ := facts7 HT11.out
                        go_upto_region 30 with (fail)
                        have hT : (w11.setCell ⟨T, 1, none⟩ (.int .i64 (n 0))).heap[T]? = some (tskO ⟨nm, n 0, x0.t, x0.d, x0.j, x0.q, x0.p⟩) := by
                          rw [blk_set_same HT11.out 1 (.int .i64 (n 0))]
                          simp [tskO, cellsTsk]
                        have HT12 := Lib.hid hT
                        have HR12 := Lib.hid (blk_set_other HR11.out ⟨T, 1, none⟩ (.int .i64 (n 0)) hTR)
                        have HB12 := Lib.hid (blk_set_other HB11.out ⟨T, 1, none⟩ (.int .i64 (n 0)) (by show T ≠ P5 + 1; omega))
                        have HK12 := Lib.hid (HK11.out.setCell T 1 (.int .i64 (n 0)) (.inl (by simp)))
                        clear nc nf y1 y2 y3 y4 y5 y6 z1 z2 z3 z4 z5 z6 hT HR11 HT11 HB11 HK11
                        generalize w11.setCell ⟨T, 1, none⟩ (.int .i64 (n 0)) = w12 at HR12 HT12 HB12 HK12 ⊢
                        obtain ⟨nc, nf⟩ := n_cell HB12.out 1 (by decide)
                        obtain ⟨-, y1, y2, y3, y4, y5, y6, -, z1, z2, z3, z4, z5, z6⟩ := facts7 HT12.out
                        go_upto_region 31 with (fail)
                        have hT : (w12.setCell ⟨T, 2, none⟩ (.int .i64 (n 1))).heap[T]? = some (tskO ⟨nm, n 0, n 1, x0.d, x0.j, x0.q, x0.p⟩) := by
                          rw [blk_set_same HT12.out 2 (.int .i64 (n 1))]
                          simp [tskO, cellsTsk]
                        have HT13 := Lib.hid hT
                        have HR13 := Lib.hid (blk_set_other HR12.out ⟨T, 2, none⟩ (.int .i64 (n 1)) hTR)
                        have HB13 := Lib.hid (blk_set_other HB12.out ⟨T, 2, none⟩ (.int .i64 (n 1)) (by show T ≠ P5 + 1; omega))
                        have HK13 := Lib.hid (HK12.out.setCell T 2 (.int .i64 (n 1)) (.inl (by simp)))
                        clear nc nf y1 y2 y3 y4 y5 y6 z1 z2 z3 z4 z5 z6 hT HR12 HT12 HB12 HK12
                        generalize w12.setCell ⟨T, 2, none⟩ (.int .i64 (n 1)) = w13 at HR13 HT13 HB13 HK13 ⊢
                        obtain ⟨nc, nf⟩ := n_cell HB13.out 2 (by decide)
                        obtain ⟨-, y1, y2, y3, y4, y5, y6, -, z1, z2, z3, z4, z5, z6⟩ := facts7 HT13.out
                        go_upto_region 32 with (fail)
                        have hT : (w13.setCell ⟨T, 3, none⟩ (.int .i64 (n 2))).heap[T]? = some (tskO ⟨nm, n 0, n 1, n 2, x0.j, x0.q, x0.p⟩) := by
                          rw [blk_set_same HT13.out 3 (.int .i64 (n 2))]
                          simp [tskO, cellsTsk]
                        have HT14 := Lib.hid hT
                        have HR14 := Lib.hid (blk_set_other HR13.out ⟨T, 3, none⟩ (.int .i64 (n 2)) hTR)
                        have HB14 := Lib.hid (blk_set_other HB13.out ⟨T, 3, none⟩ (.int .i64 (n 2)) (by show T ≠ P5 + 1; omega))
                        have HK14 := Lib.hid (HK13.out.setCell T 3 (.int .i64 (n 2)) (.inl (by simp)))
                        clear nc nf y1 y2 y3 y4 y5 y6 z1 z2 z3 z4 z5 z6 hT HR13 HT13 HB13 HK13
                        generalize w13.setCell ⟨T, 3, none⟩ (.int .i64 (n 2)) = w14 at HR14 HT14 HB14 HK14 ⊢
                        obtain ⟨nc, nf⟩ := n_cell HB14.out 3 (by decide)
                        obtain ⟨-, y1, y2, y3, y4, y5, y6, -, z1, z2, z3, z4, z5, z6⟩ := facts7 HT14.out
                        go_upto_region 33 with (fail)
                        have hT : (w14.setCell ⟨T, 4, none⟩ (.int .i64 (n 3))).heap[T]? = some (tskO ⟨nm, n 0, n 1, n 2, n 3, x0.q, x0.p⟩) := by
                          rw [blk_set_same HT14.out 4 (.int .i64 (n 3))]
                          simp [tskO, cellsTsk]
                        have HT15 := Lib.hid hT
                        have HR15 := Lib.hid (blk_set_other HR14.out ⟨T, 4, none⟩ (.int .i64 (n 3)) hTR)
                        have HB15 := Lib.hid (blk_set_other HB14.out ⟨T, 4, none⟩ (.int .i64 (n 3)) (by show T ≠ P5 + 1; omega))
                        have HK15 := Lib.hid (HK14.out.setCell T 4 (.int .i64 (n 3)) (.inl (by simp)))
                        clear nc nf y1 y2 y3 y4 y5 y6 z1 z2 z3 z4 z5 z6 hT HR14 HT14 HB14 HK14
                        generalize w14.setCell ⟨T, 4, none⟩ (.int .i64 (n 3)) = w15 at HR15 HT15 HB15 HK15 ⊢
                        obtain ⟨nc, nf⟩ := n_cell HB15.out 4 (by decide)
                        obtain ⟨-, y1, y2, y3, y4, y5, y6, -, z1, z2, z3, z4, z5, z6⟩ := facts7 HT15.out
                        go_upto_region 34 with (fail)
                        have hT : (w15.setCell ⟨T, 5, none⟩ (.int .i64 (n 4))).heap[T]? = some (tskO ⟨nm, n 0, n 1, n 2, n 3, n 4, x0.p⟩) := by
                          rw [blk_set_same HT15.out 5 (.int .i64 (n 4))]
                          simp [tskO, cellsTsk]
                        have HT16 := Lib.hid hT
                        have HR16 := Lib.hid (blk_set_other HR15.out ⟨T, 5, none⟩ (.int .i64 (n 4)) hTR)
                        have HB16 := Lib.hid (blk_set_other HB15.out ⟨T, 5, none⟩ (.int .i64 (n 4)) (by show T ≠ P5 + 1; omega))
                        have HK16 := Lib.hid (HK15.out.setCell T 5 (.int .i64 (n 4)) (.inl (by simp)))
                        clear nc nf y1 y2 y3 y4 y5 y6 z1 z2 z3 z4 z5 z6 hT HR15 HT15 HB15 HK15
                        generalize w15.setCell ⟨T, 5, none⟩ (.int .i64 (n 4)) = w16 at HR16 HT16 HB16 HK16 ⊢
                        obtain ⟨nc, nf⟩ := n_cell HB16.out 5 (by decide)
                        obtain ⟨-, y1, y2, y3, y4, y5, y6, -, z1, z2, z3, z4, z5, z6⟩ := facts7 HT16.out
                        go_wp2_with fail
                        go_ret
                        have hT : (w16.setCell ⟨T, 6, none⟩ (.int .i64 (n 5))).heap[T]? = some (tskO ⟨nm, n 0, n 1, n 2, n 3, n 4, n 5⟩) := by
                          rw [blk_set_same HT16.out 6 (.int .i64 (n 5))]
                          simp [tskO, cellsTsk]
                        exact ⟨_, _, k1, rfl, fun y hy => (Option.some.inj hy).symm, by rw [HFIN.out, h2, h4]; rfl, hk1, blk_set_other HR16.out ⟨T, 6, none⟩ (.int .i64 (n 5)) hTR, hT, HK16.out.setCell T 6 (.int .i64 (n 5)) (.inl (by simp))⟩
                      | false =>
                        rw [h4] at a4
                        obtain ⟨nc, nf⟩ := n_cell HB11.out 4 (by decide)
                        go_upto_region 29 with (fail)
                        have HB12 := Lib.hid (n_set HB11.out 4 (by decide) 1)
                        have HR12 := Lib.hid (blk_set_other HR11.out ⟨P5 + 1, 4, none⟩ (.int .i64 1) (by show P5 + 1 ≠ R; omega))
                        have HT12 := Lib.hid (blk_set_other HT11.out ⟨P5 + 1, 4, none⟩ (.int .i64 1) (by show P5 + 1 ≠ T; omega))
                        have HA12 := Lib.hid (blk_set_other HA11.out ⟨P5 + 1, 4, none⟩ (.int .i64 1) (by show P5 + 1 ≠ P5; omega))
                        have HK12 := Lib.hid (HK11.out.setCell (P5 + 1) 4 (.int .i64 1) (.inr (by omega)))
                        clear HR11 HT11 HA11 HB11 HK11
                        generalize w11.setCell ⟨P5 + 1, 4, none⟩ (.int .i64 1) = w12 at HR12 HT12 HA12 HB12 HK12 ⊢
                        clear a4 z4 nc nf
                        obtain ⟨nc, nf⟩ := n_cell HB12.out 0 (by decide)
                        obtain ⟨-, y1, y2, y3, y4, y5, y6, -, z1, z2, z3, z4, z5, z6⟩ := facts7 HT12.out
                        go_upto_region 30 with (fail)
                        have hT : (w12.setCell ⟨T, 1, none⟩ (.int .i64 ((upd n 4 1) 0))).heap[T]? = some (tskO ⟨nm, (upd n 4 1) 0, x0.t, x0.d, x0.j, x0.q, x0.p⟩) := by
                          rw [blk_set_same HT12.out 1 (.int .i64 ((upd n 4 1) 0))]
                          simp [tskO, cellsTsk]
                        have HT13 := Lib.hid hT
                        have HR13 := Lib.hid (blk_set_other HR12.out ⟨T, 1, none⟩ (.int .i64 ((upd n 4 1) 0)) hTR)
                        have HB13 := Lib.hid (blk_set_other HB12.out ⟨T, 1, none⟩ (.int .i64 ((upd n 4 1) 0)) (by show T ≠ P5 + 1; omega))
                        have HK13 := Lib.hid (HK12.out.setCell T 1 (.int .i64 ((upd n 4 1) 0)) (.inl (by simp)))
                        clear nc nf y1 y2 y3 y4 y5 y6 z1 z2 z3 z4 z5 z6 hT HR12 HT12 HB12 HK12
                        generalize w12.setCell ⟨T, 1, none⟩ (.int .i64 ((upd n 4 1) 0)) = w13 at HR13 HT13 HB13 HK13 ⊢
                        obtain ⟨nc, nf⟩ := n_cell HB13.out 1 (by decide)
                        obtain ⟨-, y1, y2, y3, y4, y5, y6, -, z1, z2, z3, z4, z5, z6⟩ := facts7 HT13.out
                        go_upto_region 31 with (fail)
                        have hT : (w13.setCell ⟨T, 2, none⟩ (.int .i64 ((upd n 4 1) 1))).heap[T]? = some (tskO ⟨nm, (upd n 4 1) 0, (upd n 4 1) 1, x0.d, x0.j, x0.q, x0.p⟩) := by
                          rw [blk_set_same HT13.out 2 (.int .i64 ((upd n 4 1) 1))]
                          simp [tskO, cellsTsk]
                        have HT14 := Lib.hid hT
                        have HR14 := Lib.hid (blk_set_other HR13.out ⟨T, 2, none⟩ (.int .i64 ((upd n 4 1) 1)) hTR)
                        have HB14 := Lib.hid (blk_set_other HB13.out ⟨T, 2, none⟩ (.int .i64 ((upd n 4 1) 1)) (by show T ≠ P5 + 1; omega))
                        have HK14 := Lib.hid (HK13.out.setCell T 2 (.int .i64 ((upd n 4 1) 1)) (.inl (by simp)))
                        clear nc nf y1 y2 y3 y4 y5 y6 z1 z2 z3 z4 z5 z6 hT HR13 HT13 HB13 HK13
                        generalize w13.setCell ⟨T, 2, none⟩ (.int .i64 ((upd n 4 1) 1)) = w14 at HR14 HT14 HB14 HK14 ⊢
                        obtain ⟨nc, nf⟩ := n_cell HB14.out 2 (by decide)
                        obtain ⟨-, y1, y2, y3, y4, y5, y6, -, z1, z2, z3, z4, z5, z6⟩ := facts7 HT14.out
                        go_upto_region 32 with (fail)
                        have hT : (w14.setCell ⟨T, 3, none⟩ (.int .i64 ((upd n 4 1) 2))).heap[T]? = some (tskO ⟨nm, (upd n 4 1) 0, (upd n 4 1) 1, (upd n 4 1) 2, x0.j, x0.q, x0.p⟩) := by
                          rw [blk_set_same HT14.out 3 (.int .i64 ((upd n 4 1) 2))]
                          simp [tskO, cellsTsk]
                        have HT15 := Lib.hid hT
                        have HR15 := Lib.hid (blk_set_other HR14.out ⟨T, 3, none⟩ (.int .i64 ((upd n 4 1) 2)) hTR)
                        have HB15 := Lib.hid (blk_set_other HB14.out ⟨T, 3, none⟩ (.int .i64 ((upd n 4 1) 2)) (by show T ≠ P5 + 1; omega))
                        have HK15 := Lib.hid (HK14.out.setCell T 3 (.int .i64 ((upd n 4 1) 2)) (.inl (by simp)))
                        clear nc nf y1 y2 y3 y4 y5 y6 z1 z2 z3 z4 z5 z6 hT HR14 HT14 HB14 HK14
                        generalize w14.setCell ⟨T, 3, none⟩ (.int .i64 ((upd n 4 1) 2)) = w15 at HR15 HT15 HB15 HK15 ⊢
                        obtain ⟨nc, nf⟩ := n_cell HB15.out 3 (by decide)
                        obtain ⟨-, y1, y2, y3, y4, y5, y6, -, z1, z2, z3, z4, z5, z6⟩ := facts7 HT15.out
                        go_upto_region 33 with (fail)
                        have hT : (w15.setCell ⟨T, 4, none⟩ (.int .i64 ((upd n 4 1) 3))).heap[T]? = some (tskO ⟨nm, (upd n 4 1) 0, (upd n 4 1) 1, (upd n 4 1) 2, (upd n 4 1) 3, x0.q, x0.p⟩) := by
                          rw [blk_set_same HT15.out 4 (.int .i64 ((upd n 4 1) 3))]
                          simp [tskO, cellsTsk]
                        have HT16 := Lib.hid hT
                        have HR16 := Lib.hid (blk_set_other HR15.out ⟨T, 4, none⟩ (.int .i64 ((upd n 4 1) 3)) hTR)
                        have HB16 := Lib.hid (blk_set_other HB15.out ⟨T, 4, none⟩ (.int .i64 ((upd n 4 1) 3)) (by show T ≠ P5 + 1; omega))
                        have HK16 := Lib.hid (HK15.out.setCell T 4 (.int .i64 ((upd n 4 1) 3)) (.inl (by simp)))
                        clear nc nf y1 y2 y3 y4 y5 y6 z1 z2 z3 z4 z5 z6 hT HR15 HT15 HB15 HK15
                        generalize w15.setCell ⟨T, 4, none⟩ (.int .i64 ((upd n 4 1) 3)) = w16 at HR16 HT16 HB16 HK16 ⊢
                        obtain ⟨nc, nf⟩ := n_cell HB16.out 4 (by decide)
                        obtain ⟨-, y1, y2, y3, y4, y5, y6, -, z1, z2, z3, z4, z5, z6⟩ := facts7 HT16.out
                        go_upto_region 34 with (fail)
                        have hT : (w16.setCell ⟨T, 5, none⟩ (.int .i64 ((upd n 4 1) 4))).heap[T]? = some (tskO ⟨nm, (upd n 4 1) 0, (upd n 4 1) 1, (upd n 4 1) 2, (upd n 4 1) 3, (upd n 4 1) 4, x0.p⟩) := by
                          rw [blk_set_same HT16.out 5 (.int .i64 ((upd n 4 1) 4))]
                          simp [tskO, cellsTsk]
                        have HT17 := Lib.hid hT
                        have HR17 := Lib.hid (blk_set_other HR16.out ⟨T, 5, none⟩ (.int .i64 ((upd n 4 1) 4)) hTR)
                        have HB17 := Lib.hid (blk_set_other HB16.out ⟨T, 5, none⟩ (.int .i64 ((upd n 4 1) 4)) (by show T ≠ P5 + 1; omega))
                        have HK17 := Lib.hid (HK16.out.setCell T 5 (.int .i64 ((upd n 4 1) 4)) (.inl (by simp)))
                        clear nc nf y1 y2 y3 y4 y5 y6 z1 z2 z3 z4 z5 z6 hT HR16 HT16 HB16 HK16
                        generalize w16.setCell ⟨T, 5, none⟩ (.int .i64 ((upd n 4 1) 4)) = w17 at HR17 HT17 HB17 HK17 ⊢
                        obtain ⟨nc, nf⟩ := n_cell HB17.out 5 (by decide)
                        obtain ⟨-, y1, y2, y3, y4, y5, y6, -, z1, z2, z3, z4, z5, z6⟩ := facts7 HT17.out
                        go_wp2_with fail
                        go_ret
                        have hT : (w17.setCell ⟨T, 6, none⟩ (.int .i64 ((upd n 4 1) 5))).heap[T]? = some (tskO ⟨nm, (upd n 4 1) 0, (upd n 4 1) 1, (upd n 4 1) 2, (upd n 4 1) 3, (upd n 4 1) 4, (upd n 4 1) 5⟩) := by
                          rw [blk_set_same HT17.out 6 (.int .i64 ((upd n 4 1) 5))]
                          simp [tskO, cellsTsk]
                        exact ⟨_, _, k1, rfl, fun y hy => (Option.some.inj hy).symm, by rw [HFIN.out, h2, h4]; rfl, hk1, blk_set_other HR17.out ⟨T, 6, none⟩ (.int .i64 ((upd n 4 1) 5)) hTR, hT, HK17.out.setCell T 6 (.int .i64 ((upd n 4 1) 5)) (.inl (by simp))⟩
                    | false =>
                      rw [h2] at a2
                      obtain ⟨nc, nf⟩ := n_cell HB11.out 2 (by decide)
                      obtain ⟨nc1, nf1⟩ := n_cell HB11.out 1 (by decide)
                      go_upto_region 27 with (fail)
                      have HB12 := Lib.hid (n_set HB11.out 2 (by decide) (n 1))
                      have HR12 := Lib.hid (blk_set_other HR11.out ⟨P5 + 1, 2, none⟩ (.int .i64 (n 1)) (by show P5 + 1 ≠ R; omega))
                      have HT12 := Lib.hid (blk_set_other HT11.out ⟨P5 + 1, 2, none⟩ (.int .i64 (n 1)) (by show P5 + 1 ≠ T; omega))
                      have HA12 := Lib.hid (blk_set_other HA11.out ⟨P5 + 1, 2, none⟩ (.int .i64 (n 1)) (by show P5 + 1 ≠ P5; omega))
                      have HK12 := Lib.hid (HK11.out.setCell (P5 + 1) 2 (.int .i64 (n 1)) (.inr (by omega)))
                      clear HR11 HT11 HA11 HB11 HK11
                      generalize w11.setCell ⟨P5 + 1, 2, none⟩ (.int .i64 (n 1)) = w12 at HR12 HT12 HA12 HB12 HK12 ⊢
                      clear a2 z2 nc nf nc1 nf1
                      obtain ⟨a4, z4⟩ := th_cell HA12.out 4 (by decide)
                      cases h4 : th 4 with
                      | true =>
                        rw [h4] at a4
                        go_upto_region 29 with (fail)
                        clear a4 z4
                        obtain ⟨nc, nf⟩ := n_cell HB12.out 0 (by decide)
                        obtain ⟨-, y1, y2, y3, y4, y5, y6, -, z1, z2, z3, z4, z5, z6⟩ := facts7 HT12.out
                        go_upto_region 30 with (fail)
                        have hT : (w12.setCell ⟨T, 1, none⟩ (.int .i64 ((upd n 2 (n 1)) 0))).heap[T]? = some (tskO ⟨nm, (upd n 2 (n 1)) 0, x0.t, x0.d, x0.j, x0.q, x0.p⟩) := by
                          rw [blk_set_same HT12.out 1 (.int .i64 ((upd n 2 (n 1)) 0))]
                          simp [tskO, cellsTsk]
                        have HT13 := Lib.hid hT
                        have HR13 := Lib.hid (blk_set_other HR12.out ⟨T, 1, none⟩ (.int .i64 ((upd n 2 (n 1)) 0)) hTR)
                        have HB13 := Lib.hid (blk_set_other HB12.out ⟨T, 1, none⟩ (.int .i64 ((upd n 2 (n 1)) 0)) (by show T ≠ P5 + 1; omega))
                        have HK13 := Lib.hid (HK12.out.setCell T 1 (.int .i64 ((upd n 2 (n 1)) 0)) (.inl (by simp)))
                        clear nc nf y1 y2 y3 y4 y5 y6 z1 z2 z3 z4 z5 z6 hT HR12 HT12 HB12 HK12
                        generalize w12.setCell ⟨T, 1, none⟩ (.int .i64 ((upd n 2 (n 1)) 0)) = w13 at HR13 HT13 HB13 HK13 ⊢
                        obtain ⟨nc, nf⟩ := n_cell HB13.out 1 (by decide)
                        obtain ⟨-, y1, y2, y3, y4, y5, y6, -, z1, z2, z3, z4, z5, z6⟩ := facts7 HT13.out
                        go_upto_region 31 with (fail)
                        have hT : (w13.setCell ⟨T, 2, none⟩ (.int .i64 ((upd n 2 (n 1)) 1))).heap[T]? = some (tskO ⟨nm, (upd n 2 (n 1)) 0, (upd n 2 (n 1)) 1, x0.d, x0.j, x0.q, x0.p⟩) := by
                          rw [blk_set_same HT13.out 2 (.int .i64 ((upd n 2 (n 1)) 1))]
                          simp [tskO, cellsTsk]
                        have HT14 := Lib.hid hT
                        have HR14 := Lib.hid (blk_set_other HR13.out ⟨T, 2, none⟩ (.int .i64 ((upd n 2 (n 1)) 1)) hTR)
                        have HB14 := Lib.hid (blk_set_other HB13.out ⟨T, 2, none⟩ (.int .i64 ((upd n 2 (n 1)) 1)) (by show T ≠ P5 + 1; omega))
                        have HK14 := Lib.hid (HK13.out.setCell T 2 (.int .i64 ((upd n 2 (n 1)) 1)) (.inl (by simp)))
                        clear nc nf y1 y2 y3 y4 y5 y6 z1 z2 z3 z4 z5 z6 hT HR13 HT13 HB13 HK13
                        generalize w13.setCell ⟨T, 2, none⟩ (.int .i64 ((upd n 2 (n 1)) 1)) = w14 at HR14 HT14 HB14 HK14 ⊢
                        obtain ⟨nc, nf⟩ := n_cell HB14.out 2 (by decide)
                        obtain ⟨-, y1, y2, y3, y4, y5, y6, -, z1, z2, z3, z4, z5, z6⟩ := facts7 HT14.out
                        go_upto_region 32 with (fail)
                        have hT : (w14.setCell ⟨T, 3, none⟩ (.int .i64 ((upd n 2 (n 1)) 2))).heap[T]? = some (tskO ⟨nm, (upd n 2 (n 1)) 0, (upd n 2 (n 1)) 1, (upd n 2 (n 1)) 2, x0.j, x0.q, x0.p⟩) := by
                          rw [blk_set_same HT14.out 3 (.int .i64 ((upd n 2 (n 1)) 2))]
                          simp [tskO, cellsTsk]
                        have HT15 := Lib.hid hT
                        have HR15 := Lib.hid (blk_set_other HR14.out ⟨T, 3, none⟩ (.int .i64 ((upd n 2 (n 1)) 2)) hTR)
                        have HB15 := Lib.hid (blk_set_other HB14.out ⟨T, 3, none⟩ (.int .i64 ((upd n 2 (n 1)) 2)) (by show T ≠ P5 + 1; omega))
                        have HK15 := Lib.hid (HK14.out.setCell T 3 (.int .i64 ((upd n 2 (n 1)) 2)) (.inl (by simp)))
                        clear nc nf y1 y2 y3 y4 y5 y6 z1 z2 z3 z4 z5 z6 hT HR14 HT14 HB14 HK14
                        generalize w14.setCell ⟨T, 3, none⟩ (.int .i64 ((upd n 2 (n 1)) 2)) = w15 at HR15 HT15 HB15 HK15 ⊢
                        obtain ⟨nc, nf⟩ := n_cell HB15.out 3 (by decide)
                        obtain ⟨-, y1, y2, y3, y4, y5, y6, -, z1, z2, z3, z4, z5, z6⟩ := facts7 HT15.out
                        go_upto_region 33 with (fail)
                        have hT : (w15.setCell ⟨T, 4, none⟩ (.int .i64 ((upd n 2 (n 1)) 3))).heap[T]? = some (tskO ⟨nm, (upd n 2 (n 1)) 0, (upd n 2 (n 1)) 1, (upd n 2 (n 1)) 2, (upd n 2 (n 1)) 3, x0.q, x0.p⟩) := by
                          rw [blk_set_same HT15.out 4 (.int .i64 ((upd n 2 (n 1)) 3))]
                          simp [tskO, cellsTsk]
                        have HT16 := Lib.hid hT
                        have HR16 := Lib.hid (blk_set_other HR15.out ⟨T, 4, none⟩ (.int .i64 ((upd n 2 (n 1)) 3)) hTR)
                        have HB16 := Lib.hid (blk_set_other HB15.out ⟨T, 4, none⟩ (.int .i64 ((upd n 2 (n 1)) 3)) (by show T ≠ P5 + 1; omega))
                        have HK16 := Lib.hid (HK15.out.setCell T 4 (.int .i64 ((upd n 2 (n 1)) 3)) (.inl (by simp)))
                        clear nc nf y1 y2 y3 y4 y5 y6 z1 z2 z3 z4 z5 z6 hT HR15 HT15 HB15 HK15
                        generalize w15.setCell ⟨T, 4, none⟩ (.int .i64 ((upd n 2 (n 1)) 3)) = w16 at HR16 HT16 HB16 HK16 ⊢
                        obtain ⟨nc, nf⟩ := n_cell HB16.out 4 (by decide)
                        obtain ⟨-, y1, y2, y3, y4, y5, y6, -, z1, z2, z3, z4, z5, z6⟩ := facts7 HT16.out
                        go_upto_region 34 with (fail)
                        have hT : (w16.setCell ⟨T, 5, none⟩ (.int .i64 ((upd n 2 (n 1)) 4))).heap[T]? = some (tskO ⟨nm, (upd n 2 (n 1)) 0, (upd n 2 (n 1)) 1, (upd n 2 (n 1)) 2, (upd n 2 (n 1)) 3, (upd n 2 (n 1)) 4, x0.p⟩) := by
                          rw [blk_set_same HT16.out 5 (.int .i64 ((upd n 2 (n 1)) 4))]
                          simp [tskO, cellsTsk]
                        have HT17 := Lib.hid hT
                        have HR17 := Lib.hid (blk_set_other HR16.out ⟨T, 5, none⟩ (.int .i64 ((upd n 2 (n 1)) 4)) hTR)
                        have HB17 := Lib.hid (blk_set_other HB16.out ⟨T, 5, none⟩ (.int .i64 ((upd n 2 (n 1)) 4)) (by show T ≠ P5 + 1; omega))
                        have HK17 := Lib.hid (HK16.out.setCell T 5 (.int .i64 ((upd n 2 (n 1)) 4)) (.inl (by simp)))
                        clear nc nf y1 y2 y3 y4 y5 y6 z1 z2 z3 z4 z5 z6 hT HR16 HT16 HB16 HK16
                        generalize w16.setCell ⟨T, 5, none⟩ (.int .i64 ((upd n 2 (n 1)) 4)) = w17 at HR17 HT17 HB17 HK17 ⊢
                        obtain ⟨nc, nf⟩ := n_cell HB17.out 5 (by decide)
                        obtain ⟨-, y1, y2, y3, y4, y5, y6, -, z1, z2, z3, z4, z5, z6⟩ := facts7 HT17.out
                        go_wp2_with fail
                        go_ret
                        have hT : (w17.setCell ⟨T, 6, none⟩ (.int .i64 ((upd n 2 (n 1)) 5))).heap[T]? = some (tskO ⟨nm, (upd n 2 (n 1)) 0, (upd n 2 (n 1)) 1, (upd n 2 (n 1)) 2, (upd n 2 (n 1)) 3, (upd n 2 (n 1)) 4, (upd n 2 (n 1)) 5⟩) := by
                          rw [blk_set_same HT17.out 6 (.int .i64 ((upd n 2 (n 1)) 5))]
                          simp [tskO, cellsTsk]
                        exact ⟨_, _, k1, rfl, fun y hy => (Option.some.inj hy).symm, by rw [HFIN.out, h2, h4]; rfl, hk1, blk_set_other HR17.out ⟨T, 6, none⟩ (.int .i64 ((upd n 2 (n 1)) 5)) hTR, hT, HK17.out.setCell T 6 (.int .i64 ((upd n 2 (n 1)) 5)) (.inl (by simp))⟩
                      | false =>
                        rw [h4] at a4
                        obtain ⟨nc, nf⟩ := n_cell HB12.out 4 (by decide)
                        go_upto_region 29 with (fail)
                        have HB13 := Lib.hid (n_set HB12.out 4 (by decide) 1)
                        have HR13 := Lib.hid (blk_set_other HR12.out ⟨P5 + 1, 4, none⟩ (.int .i64 1) (by show P5 + 1 ≠ R; omega))
                        have HT13 := Lib.hid (blk_set_other HT12.out ⟨P5 + 1, 4, none⟩ (.int .i64 1) (by show P5 + 1 ≠ T; omega))
                        have HA13 := Lib.hid (blk_set_other HA12.out ⟨P5 + 1, 4, none⟩ (.int .i64 1) (by show P5 + 1 ≠ P5; omega))
                        have HK13 := Lib.hid (HK12.out.setCell (P5 + 1) 4 (.int .i64 1) (.inr (by omega)))
                        clear HR12 HT12 HA12 HB12 HK12
                        generalize w12.setCell ⟨P5 + 1, 4, none⟩ (.int .i64 1) = w13 at HR13 HT13 HA13 HB13 HK13 ⊢
                        clear a4 z4 nc nf
                        obtain ⟨nc, nf⟩ := n_cell HB13.out 0 (by decide)
                        obtain ⟨-, y1, y2, y3, y4, y5, y6, -, z1, z2, z3, z4, z5, z6⟩ := facts7 HT13.out
                        go_upto_region 30 with (fail)
                        have hT : (w13.setCell ⟨T, 1, none⟩ (.int .i64 ((upd (upd n 2 (n 1)) 4 1) 0))).heap[T]? = some (tskO ⟨nm, (upd (upd n 2 (n 1)) 4 1) 0, x0.t, x0.d, x0.j, x0.q, x0.p⟩) := by
                          rw [blk_set_same HT13.out 1 (.int .i64 ((upd (upd n 2 (n 1)) 4 1) 0))]
                          simp [tskO, cellsTsk]
                        have HT14 := Lib.hid hT
                        have HR14 := Lib.hid (blk_set_other HR13.out ⟨T, 1, none⟩ (.int .i64 ((upd (upd n 2 (n 1)) 4 1) 0)) hTR)
                        have HB14 := Lib.hid (blk_set_other HB13.out ⟨T, 1, none⟩ (.int .i64 ((upd (upd n 2 (n 1)) 4 1) 0)) (by show T ≠ P5 + 1; omega))
                        have HK14 := Lib.hid (HK13.out.setCell T 1 (.int .i64 ((upd (upd n 2 (n 1)) 4 1) 0)) (.inl (by simp)))
                        clear nc nf y1 y2 y3 y4 y5 y6 z1 z2 z3 z4 z5 z6 hT HR13 HT13 HB13 HK13
                        generalize w13.setCell ⟨T, 1, none⟩ (.int .i64 ((upd (upd n 2 (n 1)) 4 1) 0)) = w14 at HR14 HT14 HB14 HK14 ⊢
                        obtain ⟨nc, nf⟩ := n_cell HB14.out 1 (by decide)
                        obtain ⟨-, y1, y2, y3, y4, y5, y6, -, z1, z2, z3, z4, z5, z6⟩ := facts7 HT14.out
                        go_upto_region 31 with (fail)
                        have hT : (w14.setCell ⟨T, 2, none⟩ (.int .i64 ((upd (upd n 2 (n 1)) 4 1) 1))).heap[T]? = some (tskO ⟨nm, (upd (upd n 2 (n 1)) 4 1) 0, (upd (upd n 2 (n 1)) 4 1) 1, x0.d, x0.j, x0.q, x0.p⟩) := by
                          rw [blk_set_same HT14.out 2 (.int .i64 ((upd (upd n 2 (n 1)) 4 1) 1))]
                          simp [tskO, cellsTsk]
                        have HT15 := Lib.hid hT
                        have HR15 := Lib.hid (blk_set_other HR14.out ⟨T, 2, none⟩ (.int .i64 ((upd (upd n 2 (n 1)) 4 1) 1)) hTR)
                        have HB15 := Lib.hid (blk_set_other HB14.out ⟨T, 2, none⟩ (.int .i64 ((upd (upd n 2 (n 1)) 4 1) 1)) (by show T ≠ P5 + 1; omega))
                        have HK15 := Lib.hid (HK14.out.setCell T 2 (.int .i64 ((upd (upd n 2 (n 1)) 4 1) 1)) (.inl (by simp)))
                        clear nc nf y1 y2 y3 y4 y5 y6 z1 z2 z3 z4 z5 z6 hT HR14 HT14 HB14 HK14
                        generalize w14.setCell ⟨T, 2, none⟩ (.int .i64 ((upd (upd n 2 (n 1)) 4 1) 1)) = w15 at HR15 HT15 HB15 HK15 ⊢
                        obtain ⟨nc, nf⟩ := n_cell HB15.out 2 (by decide)
                        obtain ⟨-, y1, y2, y3, y4, y5, y6, -, z1, z2, z3, z4, z5, z6⟩ := facts7 HT15.out
                        go_upto_region 32 with (fail)
                        have hT : (w15.setCell ⟨T, 3, none⟩ (.int .i64 ((upd (upd n 2 (n 1)) 4 1) 2))).heap[T]? = some (tskO ⟨nm, (upd (upd n 2 (n 1)) 4 1) 0, (upd (upd n 2 (n 1)) 4 1) 1, (upd (upd n 2 (n 1)) 4 1) 2, x0.j, x0.q, x0.p⟩) := by
                          rw [blk_set_same HT15.out 3 (.int .i64 ((upd (upd n 2 (n 1)) 4 1) 2))]
                          simp [tskO, cellsTsk]
                        have HT16 := Lib.hid hT
                        have HR16 := Lib.hid (blk_set_other HR15.out ⟨T, 3, none⟩ (.int .i64 ((upd (upd n 2 (n 1)) 4 1) 2)) hTR)
                        have HB16 := Lib.hid (blk_set_other HB15.out ⟨T, 3, none⟩ (.int .i64 ((upd (upd n 2 (n 1)) 4 1) 2)) (by show T ≠ P5 + 1; omega))
                        have HK16 := Lib.hid (HK15.out.setCell T 3 (.int .i64 ((upd (upd n 2 (n 1)) 4 1) 2)) (.inl (by simp)))
                        clear nc nf y1 y2 y3 y4 y5 y6 z1 z2 z3 z4 z5 z6 hT HR15 HT15 HB15 HK15
                        generalize w15.setCell ⟨T, 3, none⟩ (.int .i64 ((upd (upd n 2 (n 1)) 4 1) 2)) = w16 at HR16 HT16 HB16 HK16 ⊢
                        obtain ⟨nc, nf⟩ := n_cell HB16.out 3 (by decide)
                        obtain ⟨-, y1, y2, y3, y4, y5, y6, -, z1, z2, z3, z4, z5, z6⟩ := facts7 HT16.out
                        go_upto_region 33 with (fail)
                        have hT : (w16.setCell ⟨T, 4, none⟩ (.int .i64 ((upd (upd n 2 (n 1)) 4 1) 3))).heap[T]? = some (tskO ⟨nm, (upd (upd n 2 (n 1)) 4 1) 0, (upd (upd n 2 (n 1)) 4 1) 1, (upd (upd n 2 (n 1)) 4 1) 2, (upd (upd n 2 (n 1)) 4 1) 3, x0.q, x0.p⟩) := by
                          rw [blk_set_same HT16.out 4 (.int .i64 ((upd (upd n 2 (n 1)) 4 1) 3))]
                          simp [tskO, cellsTsk]
                        have HT17 := Lib.hid hT
                        have HR17 := Lib.hid (blk_set_other HR16.out ⟨T, 4, none⟩ (.int .i64 ((upd (upd n 2 (n 1)) 4 1) 3)) hTR)
                        have HB17 := Lib.hid (blk_set_other HB16.out ⟨T, 4, none⟩ (.int .i64 ((upd (upd n 2 (n 1)) 4 1) 3)) (by show T ≠ P5 + 1; omega))
                        have HK17 := Lib.hid (HK16.out.setCell T 4 (.int .i64 ((upd (upd n 2 (n 1)) 4 1) 3)) (.inl (by simp)))
                        clear nc nf y1 y2 y3 y4 y5 y6 z1 z2 z3 z4 z5 z6 hT HR16 HT16 HB16 HK16
                        generalize w16.setCell ⟨T, 4, none⟩ (.int .i64 ((upd (upd n 2 (n 1)) 4 1) 3)) = w17 at HR17 HT17 HB17 HK17 ⊢
                        obtain ⟨nc, nf⟩ := n_cell HB17.out 4 (by decide)
                        obtain ⟨-, y1, y2, y3, y4, y5, y6, -, z1, z2, z3, z4, z5, z6⟩ := facts7 HT17.out
                        go_upto_region 34 with (fail)
                        have hT : (w17.setCell ⟨T, 5, none⟩ (.int .i64 ((upd (upd n 2 (n 1)) 4 1) 4))).heap[T]? = some (tskO ⟨nm, (upd (upd n 2 (n 1)) 4 1) 0, (upd (upd n 2 (n 1)) 4 1) 1, (upd (upd n 2 (n 1)) 4 1) 2, (upd (upd n 2 (n 1)) 4 1) 3, (upd (upd n 2 (n 1)) 4 1) 4, x0.p⟩) := by
                          rw [blk_set_same HT17.out 5 (.int .i64 ((upd (upd n 2 (n 1)) 4 1) 4))]
                          simp [tskO, cellsTsk]
                        have HT18 := Lib.hid hT
                        have HR18 := Lib.hid (blk_set_other HR17.out ⟨T, 5, none⟩ (.int .i64 ((upd (upd n 2 (n 1)) 4 1) 4)) hTR)
                        have HB18 := Lib.hid (blk_set_other HB17.out ⟨T, 5, none⟩ (.int .i64 ((upd (upd n 2 (n 1)) 4 1) 4)) (by show T ≠ P5 + 1; omega))
                        have HK18 := Lib.hid (HK17.out.setCell T 5 (.int .i64 ((upd (upd n 2 (n 1)) 4 1) 4)) (.inl (by simp)))
                        clear nc nf y1 y2 y3 y4 y5 y6 z1 z2 z3 z4 z5 z6 hT HR17 HT17 HB17 HK17
                        generalize w17.setCell ⟨T, 5, none⟩ (.int .i64 ((upd (upd n 2 (n 1)) 4 1) 4)) = w18 at HR18 HT18 HB18 HK18 ⊢
                        obtain ⟨nc, nf⟩ := n_cell HB18.out 5 (by decide)
                        obtain ⟨-, y1, y2, y3, y4, y5, y6, -, z1, z2, z3, z4, z5, z6⟩ := facts7 HT18.out
                        go_wp2_with fail
                        go_ret
                        have hT : (w18.setCell ⟨T, 6, none⟩ (.int .i64 ((upd (upd n 2 (n 1)) 4 1) 5))).heap[T]? = some (tskO ⟨nm, (upd (upd n 2 (n 1)) 4 1) 0, (upd (upd n 2 (n 1)) 4 1) 1, (upd (upd n 2 (n 1)) 4 1) 2, (upd (upd n 2 (n 1)) 4 1) 3, (upd (upd n 2 (n 1)) 4 1) 4, (upd (upd n 2 (n 1)) 4 1) 5⟩) := by
                          rw [blk_set_same HT18.out 6 (.int .i64 ((upd (upd n 2 (n 1)) 4 1) 5))]
                          simp [tskO, cellsTsk]
                        exact ⟨_, _, k1, rfl, fun y hy => (Option.some.inj hy).symm, by rw [HFIN.out, h2, h4]; rfl, hk1, blk_set_other HR18.out ⟨T, 6, none⟩ (.int .i64 ((upd (upd n 2 (n 1)) 4 1) 5)) hTR, hT, HK18.out.setCell T 6 (.int .i64 ((upd (upd n 2 (n 1)) 4 1) 5)) (.inl (by simp))⟩
            · have hzn : ((((hereT ts k1 e).kind : Nat) : Int) != 0) = true := by simp; omega
              have HZ := Lib.hid hz
              clear hz
              go_wp2_with fail
              refine (kindD_any R A cap k1 e ts _ HR11.out (HTW.out.keeps HK11.out HAR.out)).mono ?_
              rintro r w12 ⟨rfl, K12⟩
              have HR12 := Lib.hid (K12.blk HR11.out (by simp))
              have HT12 := Lib.hid (K12.blk HT11.out (by simp))
              have HA12 := Lib.hid (K12.blk HA11.out (by simp))
              have HB12 := Lib.hid (K12.blk HB11.out (by simp))
              have HK12 := Lib.hid (HK11.out.trans (K12.mono (by simp)))
              clear HR11 HT11 HA11 HB11 HK11 K12
              by_cases hf : (hereT ts k1 e).kind = 4
              · rw [hf]
                have HF := Lib.hid hf
                clear hf hne hzn
                have hfin : taskL (ts.drop k) = ((if th 0 && th 1 && th 5 then some (⟨nm, n 0, n 1, if th 2 then n 2 else n 1, n 3, if th 4 then n 4 else 1, n 5⟩ : Tsk) else none), ts.drop k1) := by rw [HREL.out, fields_stop HW.out (.inr HF.out), finF_xOf HN0.out]
                have HFIN := Lib.hid hfin
                clear hfin
                obtain ⟨a0, z0⟩ := th_cell HA12.out 0 (by decide)
                obtain ⟨a1, z1⟩ := th_cell HA12.out 1 (by decide)
                obtain ⟨a5, z5⟩ := th_cell HA12.out 5 (by decide)
                cases h0 : th 0 with
                | false =>
                  rw [h0] at a0
                  go_wp2
                  go_ret
                  exact ⟨_, none, k1, rfl, by simp, by rw [HFIN.out, h0]; rfl, hk1, HR12.out, HT12.out, HK12.out⟩
                | true =>
                  rw [h0] at a0
                  cases h1 : th 1 with
                  | false =>
                    rw [h1] at a1
                    go_wp2
                    go_ret
                    exact ⟨_, none, k1, rfl, by simp, by rw [HFIN.out, h0, h1]; rfl, hk1, HR12.out, HT12.out, HK12.out⟩
                  | true =>
                    rw [h1] at a1
                    cases h5 : th 5 with
                    | false =>
                      rw [h5] at a5
                      go_wp2
                      go_ret
                      exact ⟨_, none, k1, rfl, by simp, by rw [HFIN.out, h0, h1, h5]; rfl, hk1, HR12.out, HT12.out, HK12.out⟩
                    | true =>
                      rw [h5] at a5
                      rw [h0, h1, h5] at HFIN
                      go_upto_region 25 with (fail)
                      clear a0 a1 a5 z0 z1 z5
                      obtain ⟨a2, z2⟩ := th_cell HA12.out 2 (by decide)
                      cases h2 : th 2 with
                      | true =>
                        rw [h2] at a2
                        go_upto_region 27 with (fail)
                        clear a2 z2
                        obtain ⟨a4, z4⟩ := th_cell HA12.out 4 (by decide)
                        cases h4 : th 4 with
                        | true =>
                          rw [h4] at a4
                          go_upto_region 29 with (fail)
                          clear a4 z4
                          obtain ⟨nc, nf⟩ := n_cell HB12.out 0 (by decide)
                          obtain ⟨-, y1, y2, y3, y4, y5, y6, -, z1, z2, z3, z4, z5, z6⟩ := facts7 HT12.out
                          go_upto_region 30 with (fail)
                          have hT : (w12.setCell ⟨T, 1, none⟩ (.int .i64 (n 0))).heap[T]? = some (tskO ⟨nm, n 0, x0.t, x0.d, x0.j, x0.q, x0.p⟩) := by
                            rw [blk_set_same HT12.out 1 (.int .i64 (n 0))]
                            simp [tskO, cellsTsk]
                          have HT13 := Lib.hid hT
                          have HR13 := Lib.hid (blk_set_other HR12.out ⟨T, 1, none⟩ (.int .i64 (n 0)) hTR)
                          have HB13 := Lib.hid (blk_set_other HB12.out ⟨T, 1, none⟩ (.int .i64 (n 0)) (by show T ≠ P5 + 1; omega))
                          have HK13 := Lib.hid (HK12.out.setCell T 1 (.int .i64 (n 0)) (.inl (by simp)))
                          clear nc nf y1 y2 y3 y4 y5 y6 z1 z2 z3 z4 z5 z6 hT HR12 HT12 HB12 HK12
                          generalize w12.setCell ⟨T, 1, none⟩ (.int .i64 (n 0)) = w13 at HR13 HT13 HB13 HK13 ⊢
                          obtain ⟨nc, nf⟩ := n_cell HB13.out 1 (by decide)
                          obtain ⟨-, y1, y2, y3, y4, y5, y6, -, z1, z2, z3, z4, z5, z6⟩ := facts7 HT13.out
                          go_upto_region 31 with (fail)
                          have hT : (w13.setCell ⟨T, 2, none⟩ (.int .i64 (n 1))).heap[T]? = some (tskO ⟨nm, n 0, n 1, x0.d, x0.j, x0.q, x0.p⟩) := by
                            rw [blk_set_same HT13.out 2 (.int .i64 (n 1))]
                            simp [tskO, cellsTsk]
                          have HT14 := Lib.hid hT
                          have HR14 := Lib.hid (blk_set_other HR13.out ⟨T, 2, none⟩ (.int .i64 (n 1)) hTR)
                          have HB14 := Lib.hid (blk_set_other HB13.out ⟨T, 2, none⟩ (.int .i64 (n 1)) (by show T ≠ P5 + 1; omega))
                          have HK14 := Lib.hid (HK13.out.setCell T 2 (.int .i64 (n 1)) (.inl (by simp)))
                          clear nc nf y1 y2 y3 y4 y5 y6 z1 z2 z3 z4 z5 z6 hT HR13 HT13 HB13 HK13
                          generalize w13.setCell ⟨T, 2, none⟩ (.int .i64 (n 1)) = w14 at HR14 HT14 HB14 HK14 ⊢
                          obtain ⟨nc, nf⟩ := n_cell HB14.out 2 (by decide)
                          obtain ⟨-, y1, y2, y3, y4, y5, y6, -, z1, z2, z3, z4, z5, z6⟩ := facts7 HT14.out
                          go_upto_region 32 with (fail)
                          have hT : (w14.setCell ⟨T, 3, none⟩ (.int .i64 (n 2))).heap[T]? = some (tskO ⟨nm, n 0, n 1, n 2, x0.j, x0.q, x0.p⟩) := by
                            rw [blk_set_same HT14.out 3 (.int .i64 (n 2))]
                            simp [tskO, cellsTsk]
                          have HT15 := Lib.hid hT
                          have HR15 := Lib.hid (blk_set_other HR14.out ⟨T, 3, none⟩ (.int .i64 (n 2)) hTR)
                          have HB15 := Lib.hid (blk_set_other HB14.out ⟨T, 3, none⟩ (.int .i64 (n 2)) (by show T ≠ P5 + 1; omega))
                          have HK15 := Lib.hid (HK14.out.setCell T 3 (.int .i64 (n 2)) (.inl (by simp)))
                          clear nc nf y1 y2 y3 y4 y5 y6 z1 z2 z3 z4 z5 z6 hT HR14 HT14 HB14 HK14
                          generalize w14.setCell ⟨T, 3, none⟩ (.int .i64 (n 2)) = w15 at HR15 HT15 HB15 HK15 ⊢
                          obtain ⟨nc, nf⟩ := n_cell HB15.out 3 (by decide)
                          obtain ⟨-, y1, y2, y3, y4, y5, y6, -, z1, z2, z3, z4, z5, z6⟩ := facts7 HT15.out
                          go_upto_region 33 with (fail)
                          have hT : (w15.setCell ⟨T, 4, none⟩ (.int .i64 (n 3))).heap[T]? = some (tskO ⟨nm, n 0, n 1, n 2, n 3, x0.q, x0.p⟩) := by
                            rw [blk_set_same HT15.out 4 (.int .i64 (n 3))]
                            simp [tskO, cellsTsk]
                          have HT16 := Lib.hid hT
                          have HR16 := Lib.hid (blk_set_other HR15.out ⟨T, 4, none⟩ (.int .i64 (n 3)) hTR)
                          have HB16 := Lib.hid (blk_set_other HB15.out ⟨T, 4, none⟩ (.int .i64 (n 3)) (by show T ≠ P5 + 1; omega))
                          have HK16 := Lib.hid (HK15.out.setCell T 4 (.int .i64 (n 3)) (.inl (by simp)))
                          clear nc nf y1 y2 y3 y4 y5 y6 z1 z2 z3 z4 z5 z6 hT HR15 HT15 HB15 HK15
                          generalize w15.setCell ⟨T, 4, none⟩ (.int .i64 (n 3)) = w16 at HR16 HT16 HB16 HK16 ⊢
                          obtain ⟨nc, nf⟩ := n_cell HB16.out 4 (by decide)
                          obtain ⟨-, y1, y2, y3, y4, y5, y6, -, z1, z2, z3, z4, z5, z6⟩ := facts7 HT16.out
                          go_upto_region 34 with (fail)
                          have hT : (w16.setCell ⟨T, 5, none⟩ (.int .i64 (n 4))).heap[T]? = some (tskO ⟨nm, n 0, n 1, n 2, n 3, n 4, x0.p⟩) := by
                            rw [blk_set_same HT16.out 5 (.int .i64 (n 4))]
                            simp [tskO, cellsTsk]
                          have HT17 := Lib.hid hT
                          have HR17 := Lib.hid (blk_set_other HR16.out ⟨T, 5, none⟩ (.int .i64 (n 4)) hTR)
                          have HB17 := Lib.hid (blk_set_other HB16.out ⟨T, 5, none⟩ (.int .i64 (n 4)) (by show T ≠ P5 + 1; omega))
                          have HK17 := Lib.hid (HK16.out.setCell T 5 (.int .i64 (n 4)) (.inl (by simp)))
                          clear nc nf y1 y2 y3 y4 y5 y6 z1 z2 z3 z4 z5 z6 hT HR16 HT16 HB16 HK16
                          generalize w16.setCell ⟨T, 5, none⟩ (.int .i64 (n 4)) = w17 at HR17 HT17 HB17 HK17 ⊢
                          obtain ⟨nc, nf⟩ := n_cell HB17.out 5 (by decide)
                          obtain ⟨-, y1, y2, y3, y4, y5, y6, -, z1, z2, z3, z4, z5, z6⟩ := facts7 HT17.out
                          go_wp2_with fail
                          go_ret
                          have hT : (w17.setCell ⟨T, 6, none⟩ (.int .i64 (n 5))).heap[T]? = some (tskO ⟨nm, n 0, n 1, n 2, n 3, n 4, n 5⟩) := by
                            rw [blk_set_same HT17.out 6 (.int .i64 (n 5))]
                            simp [tskO, cellsTsk]
                          exact ⟨_, _, k1, rfl, fun y hy => (Option.some.inj hy).symm, by rw [HFIN.out, h2, h4]; rfl, hk1, blk_set_other HR17.out ⟨T, 6, none⟩ (.int .i64 (n 5)) hTR, hT, HK17.out.setCell T 6 (.int .i64 (n 5)) (.inl (by simp))⟩
                        | false =>
                          rw [h4] at a4
                          obtain ⟨nc, nf⟩ := n_cell HB12.out 4 (by decide)
                          go_upto_region 29 with (fail)
                          have HB13 := Lib.hid (n_set HB12.out 4 (by decide) 1)
                          have HR13 := Lib.hid (blk_set_other HR12.out ⟨P5 + 1, 4, none⟩ (.int .i64 1) (by show P5 + 1 ≠ R; omega))
                          have HT13 := Lib.hid (blk_set_other HT12.out ⟨P5 + 1, 4, none⟩ (.int .i64 1) (by show P5 + 1 ≠ T; omega))
                          have HA13 := Lib.hid (blk_set_other HA12.out ⟨P5 + 1, 4, none⟩ (.int .i64 1) (by show P5 + 1 ≠ P5; omega))
                          have HK13 := Lib.hid (HK12.out.setCell (P5 + 1) 4 (.int .i64 1) (.inr (by omega)))
                          clear HR12 HT12 HA12 HB12 HK12
                          generalize w12.setCell ⟨P5 + 1, 4, none⟩ (.int .i64 1) = w13 at HR13 HT13 HA13 HB13 HK13 ⊢
                          clear a4 z4 nc nf
                          obtain ⟨nc, nf⟩ := n_cell HB13.out 0 (by decide)
                          obtain ⟨-, y1, y2, y3, y4, y5, y6, -, z1, z2, z3, z4, z5, z6⟩ := facts7 HT13.out
                          go_upto_region 30 with (fail)
                          have hT : (w13.setCell ⟨T, 1, none⟩ (.int .i64 ((upd n 4 1) 0))).heap[T]? = some (tskO ⟨nm, (upd n 4 1) 0, x0.t, x0.d, x0.j, x0.q, x0.p⟩) := by
                            rw [blk_set_same HT13.out 1 (.int .i64 ((upd n 4 1) 0))]
                            simp [tskO, cellsTsk]
                          have HT14 := Lib.hid hT
                          have HR14 := Lib.hid (blk_set_other HR13.out ⟨T, 1, none⟩ (.int .i64 ((upd n 4 1) 0)) hTR)
                          have HB14 := Lib.hid (blk_set_other HB13.out ⟨T, 1, none⟩ (.int .i64 ((upd n 4 1) 0)) (by show T ≠ P5 + 1; omega))
                          have HK14 := Lib.hid (HK13.out.setCell T 1 (.int .i64 ((upd n 4 1) 0)) (.inl (by simp)))
                          clear nc nf y1 y2 y3 y4 y5 y6 z1 z2 z3 z4 z5 z6 hT HR13 HT13 HB13 HK13
                          generalize w13.setCell ⟨T, 1, none⟩ (.int .i64 ((upd n 4 1) 0)) = w14 at HR14 HT14 HB14 HK14 ⊢
                          obtain ⟨nc, nf⟩ := n_cell HB14.out 1 (by decide)
                          obtain ⟨-, y1, y2, y3, y4, y5, y6, -, z1, z2, z3, z4, z5, z6⟩ := facts7 HT14.out
                          go_upto_region 31 with (fail)
                          have hT : (w14.setCell ⟨T, 2, none⟩ (.int .i64 ((upd n 4 1) 1))).heap[T]? = some (tskO ⟨nm, (upd n 4 1) 0, (upd n 4 1) 1, x0.d, x0.j, x0.q, x0.p⟩) := by
                            rw [blk_set_same HT14.out 2 (.int .i64 ((upd n 4 1) 1))]
                            simp [tskO, cellsTsk]
                          have HT15 := Lib.hid hT
                          have HR15 := Lib.hid (blk_set_other HR14.out ⟨T, 2, none⟩ (.int .i64 ((upd n 4 1) 1)) hTR)
                          have HB15 := Lib.hid (blk_set_other HB14.out ⟨T, 2, none⟩ (.int .i64 ((upd n 4 1) 1)) (by show T ≠ P5 + 1; omega))
                          have HK15 := Lib.hid (HK14.out.setCell T 2 (.int .i64 ((upd n 4 1) 1)) (.inl (by simp)))
                          clear nc nf y1 y2 y3 y4 y5 y6 z1 z2 z3 z4 z5 z6 hT HR14 HT14 HB14 HK14
                          generalize w14.setCell ⟨T, 2, none⟩ (.int .i64 ((upd n 4 1) 1)) = w15 at HR15 HT15 HB15 HK15 ⊢
                          obtain ⟨nc, nf⟩ := n_cell HB15.out 2 (by decide)
                          obtain ⟨-, y1, y2, y3, y4, y5, y6, -, z1, z2, z3, z4, z5, z6⟩ := facts7 HT15.out
                          go_upto_region 32 with (fail)
                          have hT : (w15.setCell ⟨T, 3, none⟩ (.int .i64 ((upd n 4 1) 2))).heap[T]? = some (tskO ⟨nm, (upd n 4 1) 0, (upd n 4 1) 1, (upd n 4 1) 2, x0.j, x0.q, x0.p⟩) := by
                            rw [blk_set_same HT15.out 3 (.int .i64 ((upd n 4 1) 2))]
                            simp [tskO, cellsTsk]
                          have HT16 := Lib.hid hT
                          have HR16 := Lib.hid (blk_set_other HR15.out ⟨T, 3, none⟩ (.int .i64 ((upd n 4 1) 2)) hTR)
                          have HB16 := Lib.hid (blk_set_other HB15.out ⟨T, 3, none⟩ (.int .i64 ((upd n 4 1) 2)) (by show T ≠ P5 + 1; omega))
                          have HK16 := Lib.hid (HK15.out.setCell T 3 (.int .i64 ((upd n 4 1) 2)) (.inl (by simp)))
                          clear nc nf y1 y2 y3 y4 y5 y6 z1 z2 z3 z4 z5 z6 hT HR15 HT15 HB15 HK15
                          generalize w15.setCell ⟨T, 3, none⟩ (.int .i64 ((upd n 4 1) 2)) = w16 at HR16 HT16 HB16 HK16 ⊢
                          obtain ⟨nc, nf⟩ := n_cell HB16.out 3 (by decide)
                          obtain ⟨-, y1, y2, y3, y4, y5, y6, -, z1, z2, z3, z4, z5, z6⟩ := facts7 HT16.out
                          go_upto_region 33 with (fail)
                          have hT : (w16.setCell ⟨T, 4, none⟩ (.int .i64 ((upd n 4 1) 3))).heap[T]? = some (tskO ⟨nm, (upd n 4 1) 0, (upd n 4 1) 1, (upd n 4 1) 2, (upd n 4 1) 3, x0.q, x0.p⟩) := by
                            rw [blk_set_same HT16.out 4 (.int .i64 ((upd n 4 1) 3))]
                            simp [tskO, cellsTsk]
                          have HT17 := Lib.hid hT
                          have HR17 := Lib.hid (blk_set_other HR16.out ⟨T, 4, none⟩ (.int .i64 ((upd n 4 1) 3)) hTR)
                          have HB17 := Lib.hid (blk_set_other HB16.out ⟨T, 4, none⟩ (.int .i64 ((upd n 4 1) 3)) (by show T ≠ P5 + 1; omega))
                          have HK17 := Lib.hid (HK16.out.setCell T 4 (.int .i64 ((upd n 4 1) 3)) (.inl (by simp)))
                          clear nc nf y1 y2 y3 y4 y5 y6 z1 z2 z3 z4 z5 z6 hT HR16 HT16 HB16 HK16
                          generalize w16.setCell ⟨T, 4, none⟩ (.int .i64 ((upd n 4 1) 3)) = w17 at HR17 HT17 HB17 HK17 ⊢
                          obtain ⟨nc, nf⟩ := n_cell HB17.out 4 (by decide)
                          obtain ⟨-, y1, y2, y3, y4, y5, y6, -, z1, z2, z3, z4, z5, z6⟩ := facts7 HT17.out
                          go_upto_region 34 with (fail)
                          have hT : (w17.setCell ⟨T, 5, none⟩ (.int .i64 ((upd n 4 1) 4))).heap[T]? = some (tskO ⟨nm, (upd n 4 1) 0, (upd n 4 1) 1, (upd n 4 1) 2, (upd n 4 1) 3, (upd n 4 1) 4, x0.p⟩) := by
                            rw [blk_set_same HT17.out 5 (.int .i64 ((upd n 4 1) 4))]
                            simp [tskO, cellsTsk]
                          have HT18 := Lib.hid hT
                          have HR18 := Lib.hid (blk_set_other HR17.out ⟨T, 5, none⟩ (.int .i64 ((upd n 4 1) 4)) hTR)
                          have HB18 := Lib.hid (blk_set_other HB17.out ⟨T, 5, none⟩ (.int .i64 ((upd n 4 1) 4)) (by show T ≠ P5 + 1; omega))
                          have HK18 := Lib.hid (HK17.out.setCell T 5 (.int .i64 ((upd n 4 1) 4)) (.inl (by simp)))
                          clear nc nf y1 y2 y3 y4 y5 y6 z1 z2 z3 z4 z5 z6 hT HR17 HT17 HB17 HK17
                          generalize w17.setCell ⟨T, 5, none⟩ (.int .i64 ((upd n 4 1) 4)) = w18 at HR18 HT18 HB18 HK18 ⊢
                          obtain ⟨nc, nf⟩ := n_cell HB18.out 5 (by decide)
                          obtain ⟨-, y1, y2, y3, y4, y5, y6, -, z1, z2, z3, z4, z5, z6⟩ := facts7 HT18.out
                          go_wp2_with fail
                          go_ret
                          have hT : (w18.setCell ⟨T, 6, none⟩ (.int .i64 ((upd n 4 1) 5))).heap[T]? = some (tskO ⟨nm, (upd n 4 1) 0, (upd n 4 1) 1, (upd n 4 1) 2, (upd n 4 1) 3, (upd n 4 1) 4, (upd n 4 1) 5⟩) := by
                            rw [blk_set_same HT18.out 6 (.int .i64 ((upd n 4 1) 5))]
                            simp [tskO, cellsTsk]
                          exact ⟨_, _, k1, rfl, fun y hy => (Option.some.inj hy).symm, by rw [HFIN.out, h2, h4]; rfl, hk1, blk_set_other HR18.out ⟨T, 6, none⟩ (.int .i64 ((upd n 4 1) 5)) hTR, hT, HK18.out.setCell T 6 (.int .i64 ((upd n 4 1) 5)) (.inl (by simp))⟩
                      | false =>
                        rw [h2] at a2
                        obtain ⟨nc, nf⟩ := n_cell HB12.out 2 (by decide)
                        obtain ⟨nc1, nf1⟩ := n_cell HB12.out 1 (by decide)
                        go_upto_region 27 with (fail)
                        have HB13 := Lib.hid (n_set HB12.out 2 (by decide) (n 1))
                        have HR13 := Lib.hid (blk_set_other HR12.out ⟨P5 + 1, 2, none⟩ (.int .i64 (n 1)) (by show P5 + 1 ≠ R; omega))
                        have HT13 := Lib.hid (blk_set_other HT12.out ⟨P5 + 1, 2, none⟩ (.int .i64 (n 1)) (by show P5 + 1 ≠ T; omega))
                        have HA13 := Lib.hid (blk_set_other HA12.out ⟨P5 + 1, 2, none⟩ (.int .i64 (n 1)) (by show P5 + 1 ≠ P5; omega))
                        have HK13 := Lib.hid (HK12.out.setCell (P5 + 1) 2 (.int .i64 (n 1)) (.inr (by omega)))
                        clear HR12 HT12 HA12 HB12 HK12
                        generalize w12.setCell ⟨P5 + 1, 2, none⟩ (.int .i64 (n 1)) = w13 at HR13 HT13 HA13 HB13 HK13 ⊢
                        clear a2 z2 nc nf nc1 nf1
                        obtain ⟨a4, z4⟩ := th_cell HA13.out 4 (by decide)
                        cases h4 : th 4 with
                        | true =>
                          rw [h4] at a4
                          go_upto_region 29 with (fail)
                          clear a4 z4
                          obtain ⟨nc, nf⟩ := n_cell HB13.out 0 (by decide)
                          obtain ⟨-, y1, y2, y3, y4, y5, y6, -, z1, z2, z3, z4, z5, z6⟩ := facts7 HT13.out
                          go_upto_region 30 with (fail)
                          have hT : (w13.setCell ⟨T, 1, none⟩ (.int .i64 ((upd n 2 (n 1)) 0))).heap[T]? = some (tskO ⟨nm, (upd n 2 (n 1)) 0, x0.t, x0.d, x0.j, x0.q, x0.p⟩) := by
                            rw [blk_set_same HT13.out 1 (.int .i64 ((upd n 2 (n 1)) 0))]
                            simp [tskO, cellsTsk]
                          have HT14 := Lib.hid hT
                          have HR14 := Lib.hid (blk_set_other HR13.out ⟨T, 1, none⟩ (.int .i64 ((upd n 2 (n 1)) 0)) hTR)
                          have HB14 := Lib.hid (blk_set_other HB13.out ⟨T, 1, none⟩ (.int .i64 ((upd n 2 (n 1)) 0)) (by show T ≠ P5 + 1; omega))
                          have HK14 := Lib.hid (HK13.out.setCell T 1 (.int .i64 ((upd n 2 (n 1)) 0)) (.inl (by simp)))
                          clear nc nf y1 y2 y3 y4 y5 y6 z1 z2 z3 z4 z5 z6 hT HR13 HT13 HB13 HK13
                          generalize w13.setCell ⟨T, 1, none⟩ (.int .i64 ((upd n 2 (n 1)) 0)) = w14 at HR14 HT14 HB14 HK14 ⊢
                          obtain ⟨nc, nf⟩ := n_cell HB14.out 1 (by decide)
                          obtain ⟨-, y1, y2, y3, y4, y5, y6, -, z1, z2, z3, z4, z5, z6⟩ := facts7 HT14.out
                          go_upto_region 31 with (fail)
                          have hT : (w14.setCell ⟨T, 2, none⟩ (.int .i64 ((upd n 2 (n 1)) 1))).heap[T]? = some (tskO ⟨nm, (upd n 2 (n 1)) 0, (upd n 2 (n 1)) 1, x0.d, x0.j, x0.q, x0.p⟩) := by
                            rw [blk_set_same HT14.out 2 (.int .i64 ((upd n 2 (n 1)) 1))]
                            simp [tskO, cellsTsk]
                          have HT15 := Lib.hid hT
                          have HR15 := Lib.hid (blk_set_other HR14.out ⟨T, 2, none⟩ (.int .i64 ((upd n 2 (n 1)) 1)) hTR)
                          have HB15 := Lib.hid (blk_set_other HB14.out ⟨T, 2, none⟩ (.int .i64 ((upd n 2 (n 1)) 1)) (by show T ≠ P5 + 1; omega))
                          have HK15 := Lib.hid (HK14.out.setCell T 2 (.int .i64 ((upd n 2 (n 1)) 1)) (.inl (by simp)))
                          clear nc nf y1 y2 y3 y4 y5 y6 z1 z2 z3 z4 z5 z6 hT HR14 HT14 HB14 HK14
                          generalize w14.setCell ⟨T, 2, none⟩ (.int .i64 ((upd n 2 (n 1)) 1)) = w15 at HR15 HT15 HB15 HK15 ⊢
                          obtain ⟨nc, nf⟩ := n_cell HB15.out 2 (by decide)
                          obtain ⟨-, y1, y2, y3, y4, y5, y6, -, z1, z2, z3, z4, z5, z6⟩ := facts7 HT15.out
                          go_upto_region 32 with (fail)
                          have hT : (w15.setCell ⟨T, 3, none⟩ (.int .i64 ((upd n 2 (n 1)) 2))).heap[T]? = some (tskO ⟨nm, (upd n 2 (n 1)) 0, (upd n 2 (n 1)) 1, (upd n 2 (n 1)) 2, x0.j, x0.q, x0.p⟩) := by
                            rw [blk_set_same HT15.out 3 (.int .i64 ((upd n 2 (n 1)) 2))]
                            simp [tskO, cellsTsk]
                          have HT16 := Lib.hid hT
                          have HR16 := Lib.hid (blk_set_other HR15.out ⟨T, 3, none⟩ (.int .i64 ((upd n 2 (n 1)) 2)) hTR)
                          have HB16 := Lib.hid (blk_set_other HB15.out ⟨T, 3, none⟩ (.int .i64 ((upd n 2 (n 1)) 2)) (by show T ≠ P5 + 1; omega))
                          have HK16 := Lib.hid (HK15.out.setCell T 3 (.int .i64 ((upd n 2 (n 1)) 2)) (.inl (by simp)))
                          clear nc nf y1 y2 y3 y4 y5 y6 z1 z2 z3 z4 z5 z6 hT HR15 HT15 HB15 HK15
                          generalize w15.setCell ⟨T, 3, none⟩ (.int .i64 ((upd n 2 (n 1)) 2)) = w16 at HR16 HT16 HB16 HK16 ⊢
                          obtain ⟨nc, nf⟩ := n_cell HB16.out 3 (by decide)
                          obtain ⟨-, y1, y2, y3, y4, y5, y6, -, z1, z2, z3, z4, z5, z6⟩ := facts7 HT16.out
                          go_upto_region 33 with (fail)
                          have hT : (w16.setCell ⟨T, 4, none⟩ (.int .i64 ((upd n 2 (n 1)) 3))).heap[T]? = some (tskO ⟨nm, (upd n 2 (n 1)) 0, (upd n 2 (n 1)) 1, (upd n 2 (n 1)) 2, (upd n 2 (n 1)) 3, x0.q, x0.p⟩) := by
                            rw [blk_set_same HT16.out 4 (.int .i64 ((upd n 2 (n 1)) 3))]
                            simp [tskO, cellsTsk]
                          have HT17 := Lib.hid hT
                          have HR17 := Lib.hid (blk_set_other HR16.out ⟨T, 4, none⟩ (.int .i64 ((upd n 2 (n 1)) 3)) hTR)
                          have HB17 := Lib.hid (blk_set_other HB16.out ⟨T, 4, none⟩ (.int .i64 ((upd n 2 (n 1)) 3)) (by show T ≠ P5 + 1; omega))
                          have HK17 := Lib.hid (HK16.out.setCell T 4 (.int .i64 ((upd n 2 (n 1)) 3)) (.inl (by simp)))
                          clear nc nf y1 y2 y3 y4 y5 y6 z1 z2 z3 z4 z5 z6 hT HR16 HT16 HB16 HK16
                          generalize w16.setCell ⟨T, 4, none⟩ (.int .i64 ((upd n 2 (n 1)) 3)) = w17 at HR17 HT17 HB17 HK17 ⊢
                          obtain ⟨nc, nf⟩ := n_cell HB17.out 4 (by decide)
                          obtain ⟨-, y1, y2, y3, y4, y5, y6, -, z1, z2, z3, z4, z5, z6⟩ := facts7 HT17.out
                          go_upto_region 34 with (fail)
                          have hT : (w17.setCell ⟨T, 5, none⟩ (.int .i64 ((upd n 2 (n 1)) 4))).heap[T]? = some (tskO ⟨nm, (upd n 2 (n 1)) 0, (upd n 2 (n 1)) 1, (upd n 2 (n 1)) 2, (upd n 2 (n 1)) 3, (upd n 2 (n 1)) 4, x0.p⟩) := by
                            rw [blk_set_same HT17.out 5 (.int .i64 ((upd n 2 (n 1)) 4))]
                            simp [tskO, cellsTsk]
                          have HT18 := Lib.hid hT
                          have HR18 := Lib.hid (blk_set_other HR17.out ⟨T, 5, none⟩ (.int .i64 ((upd n 2 (n 1)) 4)) hTR)
                          have HB18 := Lib.hid (blk_set_other HB17.out ⟨T, 5, none⟩ (.int .i64 ((upd n 2 (n 1)) 4)) (by show T ≠ P5 + 1; omega))
                          have HK18 := Lib.hid (HK17.out.setCell T 5 (.int .i64 ((upd n 2 (n 1)) 4)) (.inl (by simp)))
                          clear nc nf y1 y2 y3 y4 y5 y6 z1 z2 z3 z4 z5 z6 hT HR17 HT17 HB17 HK17
                          generalize w17.setCell ⟨T, 5, none⟩ (.int .i64 ((upd n 2 (n 1)) 4)) = w18 at HR18 HT18 HB18 HK18 ⊢
                          obtain ⟨nc, nf⟩ := n_cell HB18.out 5 (by decide)
                          obtain ⟨-, y1, y2, y3, y4, y5, y6, -, z1, z2, z3, z4, z5, z6⟩ := facts7 HT18.out
                          go_wp2_with fail
                          go_ret
                          have hT : (w18.setCell ⟨T, 6, none⟩ (.int .i64 ((upd n 2 (n 1)) 5))).heap[T]? = some (tskO ⟨nm, (upd n 2 (n 1)) 0, (upd n 2 (n 1)) 1, (upd n 2 (n 1)) 2, (upd n 2 (n 1)) 3, (upd n 2 (n 1)) 4, (upd n 2 (n 1)) 5⟩) := by
                            rw [blk_set_same HT18.out 6 (.int .i64 ((upd n 2 (n 1)) 5))]
                            simp [tskO, cellsTsk]
                          exact ⟨_, _, k1, rfl, fun y hy => (Option.some.inj hy).symm, by rw [HFIN.out, h2, h4]; rfl, hk1, blk_set_other HR18.out ⟨T, 6, none⟩ (.int .i64 ((upd n 2 (n 1)) 5)) hTR, hT, HK18.out.setCell T 6 (.int .i64 ((upd n 2 (n 1)) 5)) (.inl (by simp))⟩
                        | false =>
                          rw [h4] at a4
                          obtain ⟨nc, nf⟩ := n_cell HB13.out 4 (by decide)
                          go_upto_region 29 with (fail)
                          have HB14 := Lib.hid (n_set HB13.out 4 (by decide) 1)
                          have HR14 := Lib.hid (blk_set_other HR13.out ⟨P5 + 1, 4, none⟩ (.int .i64 1) (by show P5 + 1 ≠ R; omega))
                          have HT14 := Lib.hid (blk_set_other HT13.out ⟨P5 + 1, 4, none⟩ (.int .i64 1) (by show P5 + 1 ≠ T; omega))
                          have HA14 := Lib.hid (blk_set_other HA13.out ⟨P5 + 1, 4, none⟩ (.int .i64 1) (by show P5 + 1 ≠ P5; omega))
                          have HK14 := Lib.hid (HK13.out.setCell (P5 + 1) 4 (.int .i64 1) (.inr (by omega)))
                          clear HR13 HT13 HA13 HB13 HK13
                          generalize w13.setCell ⟨P5 + 1, 4, none⟩ (.int .i64 1) = w14 at HR14 HT14 HA14 HB14 HK14 ⊢
                          clear a4 z4 nc nf
                          obtain ⟨nc, nf⟩ := n_cell HB14.out 0 (by decide)
                          obtain ⟨-, y1, y2, y3, y4, y5, y6, -, z1, z2, z3, z4, z5, z6⟩ := facts7 HT14.out
                          go_upto_region 30 with (fail)
                          have hT : (w14.setCell ⟨T, 1, none⟩ (.int .i64 ((upd (upd n 2 (n 1)) 4 1) 0))).heap[T]? = some (tskO ⟨nm, (upd (upd n 2 (n 1)) 4 1) 0, x0.t, x0.d, x0.j, x0.q, x0.p⟩) := by
                            rw [blk_set_same HT14.out 1 (.int .i64 ((upd (upd n 2 (n 1)) 4 1) 0))]
                            simp [tskO, cellsTsk]
                          have HT15 := Lib.hid hT
                          have HR15 := Lib.hid (blk_set_other HR14.out ⟨T, 1, none⟩ (.int .i64 ((upd (upd n 2 (n 1)) 4 1) 0)) hTR)
                          have HB15 := Lib.hid (blk_set_other HB14.out ⟨T, 1, none⟩ (.int .i64 ((upd (upd n 2 (n 1)) 4 1) 0)) (by show T ≠ P5 + 1; omega))
                          have HK15 := Lib.hid (HK14.out.setCell T 1 (.int .i64 ((upd (upd n 2 (n 1)) 4 1) 0)) (.inl (by simp)))
                          clear nc nf y1 y2 y3 y4 y5 y6 z1 z2 z3 z4 z5 z6 hT HR14 HT14 HB14 HK14
                          generalize w14.setCell ⟨T, 1, none⟩ (.int .i64 ((upd (upd n 2 (n 1)) 4 1) 0)) = w15 at HR15 HT15 HB15 HK15 ⊢
                          obtain ⟨nc, nf⟩ := n_cell HB15.out 1 (by decide)
                          obtain ⟨-, y1, y2, y3, y4, y5, y6, -, z1, z2, z3, z4, z5, z6⟩ := facts7 HT15.out
                          go_upto_region 31 with (fail)
                          have hT : (w15.setCell ⟨T, 2, none⟩ (.int .i64 ((upd (upd n 2 (n 1)) 4 1) 1))).heap[T]? = some (tskO ⟨nm, (upd (upd n 2 (n 1)) 4 1) 0, (upd (upd n 2 (n 1)) 4 1) 1, x0.d, x0.j, x0.q, x0.p⟩) := by
                            rw [blk_set_same HT15.out 2 (.int .i64 ((upd (upd n 2 (n 1)) 4 1) 1))]
                            simp [tskO, cellsTsk]
                          have HT16 := Lib.hid hT
                          have HR16 := Lib.hid (blk_set_other HR15.out ⟨T, 2, none⟩ (.int .i64 ((upd (upd n 2 (n 1)) 4 1) 1)) hTR)
                          have HB16 := Lib.hid (blk_set_other HB15.out ⟨T, 2, none⟩ (.int .i64 ((upd (upd n 2 (n 1)) 4 1) 1)) (by show T ≠ P5 + 1; omega))
                          have HK16 := Lib.hid (HK15.out.setCell T 2 (.int .i64 ((upd (upd n 2 (n 1)) 4 1) 1)) (.inl (by simp)))
                          clear nc nf y1 y2 y3 y4 y5 y6 z1 z2 z3 z4 z5 z6 hT HR15 HT15 HB15 HK15
                          generalize w15.setCell ⟨T, 2, none⟩ (.int .i64 ((upd (upd n 2 (n 1)) 4 1) 1)) = w16 at HR16 HT16 HB16 HK16 ⊢
                          obtain ⟨nc, nf⟩ := n_cell HB16.out 2 (by decide)
                          obtain ⟨-, y1, y2, y3, y4, y5, y6, -, z1, z2, z3, z4, z5, z6⟩ := facts7 HT16.out
                          go_upto_region 32 with (fail)
                          have hT : (w16.setCell ⟨T, 3, none⟩ (.int .i64 ((upd (upd n 2 (n 1)) 4 1) 2))).heap[T]? = some (tskO ⟨nm, (upd (upd n 2 (n 1)) 4 1) 0, (upd (upd n 2 (n 1)) 4 1) 1, (upd (upd n 2 (n 1)) 4 1) 2, x0.j, x0.q, x0.p⟩) := by
                            rw [blk_set_same HT16.out 3 (.int .i64 ((upd (upd n 2 (n 1)) 4 1) 2))]
                            simp [tskO, cellsTsk]
                          have HT17 := Lib.hid hT
                          have HR17 := Lib.hid (blk_set_other HR16.out ⟨T, 3, none⟩ (.int .i64 ((upd (upd n 2 (n 1)) 4 1) 2)) hTR)
                          have HB17 := Lib.hid (blk_set_other HB16.out ⟨T, 3, none⟩ (.int .i64 ((upd (upd n 2 (n 1)) 4 1) 2)) (by show T ≠ P5 + 1; omega))
                          have HK17 := Lib.hid (HK16.out.setCell T 3 (.int .i64 ((upd (upd n 2 (n 1)) 4 1) 2)) (.inl (by simp)))
                          clear nc nf y1 y2 y3 y4 y5 y6 z1 z2 z3 z4 z5 z6 hT HR16 HT16 HB16 HK16
                          generalize w16.setCell ⟨T, 3, none⟩ (.int .i64 ((upd (upd n 2 (n 1)) 4 1) 2)) = w17 at HR17 HT17 HB17 HK17 ⊢
                          obtain ⟨nc, nf⟩ := n_cell HB17.out 3 (by decide)
                          obtain ⟨-, y1, y2, y3, y4, y5, y6, -, z1, z2, z3, z4, z5, z6⟩ := facts7 HT17.out
                          go_upto_region 33 with (fail)
                          have hT : (w17.setCell ⟨T, 4, none⟩ (.int .i64 ((upd (upd n 2 (n 1)) 4 1) 3))).heap[T]? = some (tskO ⟨nm, (upd (upd n 2 (n 1)) 4 1) 0, (upd (upd n 2 (n 1)) 4 1) 1, (upd (upd n 2 (n 1)) 4 1) 2, (upd (upd n 2 (n 1)) 4 1) 3, x0.q, x0.p⟩) := by
                            rw [blk_set_same HT17.out 4 (.int .i64 ((upd (upd n 2 (n 1)) 4 1) 3))]
                            simp [tskO, cellsTsk]
                          have HT18 := Lib.hid hT
                          have HR18 := Lib.hid (blk_set_other HR17.out ⟨T, 4, none⟩ (.int .i64 ((upd (upd n 2 (n 1)) 4 1) 3)) hTR)
                          have HB18 := Lib.hid (blk_set_other HB17.out ⟨T, 4, none⟩ (.int .i64 ((upd (upd n 2 (n 1)) 4 1) 3)) (by show T ≠ P5 + 1; omega))
                          have HK18 := Lib.hid (HK17.out.setCell T 4 (.int .i64 ((upd (upd n 2 (n 1)) 4 1) 3)) (.inl (by simp)))
                          clear nc nf y1 y2 y3 y4 y5 y6 z1 z2 z3 z4 z5 z6 hT HR17 HT17 HB17 HK17
                          generalize w17.setCell ⟨T, 4, none⟩ (.int .i64 ((upd (upd n 2 (n 1)) 4 1) 3)) = w18 at HR18 HT18 HB18 HK18 ⊢
                          obtain ⟨nc, nf⟩ := n_cell HB18.out 4 (by decide)
                          obtain ⟨-, y1, y2, y3, y4, y5, y6, -, z1, z2, z3, z4, z5, z6⟩ := facts7 HT18.out
                          go_upto_region 34 with (fail)
                          have hT : (w18.setCell ⟨T, 5, none⟩ (.int .i64 ((upd (upd n 2 (n 1)) 4 1) 4))).heap[T]? = some (tskO ⟨nm, (upd (upd n 2 (n 1)) 4 1) 0, (upd (upd n 2 (n 1)) 4 1) 1, (upd (upd n 2 (n 1)) 4 1) 2, (upd (upd n 2 (n 1)) 4 1) 3, (upd (upd n 2 (n 1)) 4 1) 4, x0.p⟩) := by
                            rw [blk_set_same HT18.out 5 (.int .i64 ((upd (upd n 2 (n 1)) 4 1) 4))]
                            simp [tskO, cellsTsk]
                          have HT19 := Lib.hid hT
                          have HR19 := Lib.hid (blk_set_other HR18.out ⟨T, 5, none⟩ (.int .i64 ((upd (upd n 2 (n 1)) 4 1) 4)) hTR)
                          have HB19 := Lib.hid (blk_set_other HB18.out ⟨T, 5, none⟩ (.int .i64 ((upd (upd n 2 (n 1)) 4 1) 4)) (by show T ≠ P5 + 1; omega))
                          have HK19 := Lib.hid (HK18.out.setCell T 5 (.int .i64 ((upd (upd n 2 (n 1)) 4 1) 4)) (.inl (by simp)))
                          clear nc nf y1 y2 y3 y4 y5 y6 z1 z2 z3 z4 z5 z6 hT HR18 HT18 HB18 HK18
                          generalize w18.setCell ⟨T, 5, none⟩ (.int .i64 ((upd (upd n 2 (n 1)) 4 1) 4)) = w19 at HR19 HT19 HB19 HK19 ⊢
                          obtain ⟨nc, nf⟩ := n_cell HB19.out 5 (by decide)
                          obtain ⟨-, y1, y2, y3, y4, y5, y6, -, z1, z2, z3, z4, z5, z6⟩ := facts7 HT19.out
                          go_wp2_with fail
                          go_ret
                          have hT : (w19.setCell ⟨T, 6, none⟩ (.int .i64 ((upd (upd n 2 (n 1)) 4 1) 5))).heap[T]? = some (tskO ⟨nm, (upd (upd n 2 (n 1)) 4 1) 0, (upd (upd n 2 (n 1)) 4 1) 1, (upd (upd n 2 (n 1)) 4 1) 2, (upd (upd n 2 (n 1)) 4 1) 3, (upd (upd n 2 (n 1)) 4 1) 4, (upd (upd n 2 (n 1)) 4 1) 5⟩) := by
                            rw [blk_set_same HT19.out 6 (.int .i64 ((upd (upd n 2 (n 1)) 4 1) 5))]
                            simp [tskO, cellsTsk]
                          exact ⟨_, _, k1, rfl, fun y hy => (Option.some.inj hy).symm, by rw [HFIN.out, h2, h4]; rfl, hk1, blk_set_other HR19.out ⟨T, 6, none⟩ (.int .i64 ((upd (upd n 2 (n 1)) 4 1) 5)) hTR, hT, HK19.out.setCell T 6 (.int .i64 ((upd (upd n 2 (n 1)) 4 1) 5)) (.inl (by simp))⟩
              · have hfn : ((((hereT ts k1 e).kind : Nat) : Int) != 4) = true := by simp; omega
                have HN := Lib.hid (HREL.out.trans (fields_odd HW.out HKD.out HZ.out hf))
                clear hf
                go_wp2
                go_ret
                exact ⟨_, none, k1, rfl, by simp, HN.out, hk1, HR12.out, HT12.out, HK12.out⟩
      · have hne : ((((hereT ts (k + 1) e).kind : Nat) : Int) != 1) = true := by simp; omega
        have hno := task_no2 (k := k) (e := e) (by rw [HTX.out, HTT.out]; rfl) hn1
        have HNO := Lib.hid hno
        clear hn1 hno
        go_wp2
        go_ret
        exact ⟨_, none, k + 1, rfl, by simp, HNO.out.1, by have := HNO.out.2; omega, HR4.out, HT4.out, HK4.out⟩
    · have htb : (tx == [116, 97, 115, 107]) = false := by simpa using ht
      have hno := task_no1 HW.out (k := k) (e := e) (.inr (by rw [HTX.out]; exact ht))
      have HNO := Lib.hid hno
      clear ht hno
      go_wp2
      go_ret
      exact ⟨_, none, k, rfl, by simp, HNO.out, hk, HR2.out, HT2.out, HK2.out⟩
  · have hne : ((((hereT ts k e).kind : Nat) : Int) != 1) = true := by simp; omega
    have hno := task_no1 HW.out (k := k) (e := e) (.inl hk1)
    have HNO := Lib.hid hno
    clear hk1 hno
    go_wp2
    go_ret
    exact ⟨_, none, k, rfl, by simp, HNO.out, hk, HR1.out, HT1.out, HK1.out⟩
end Go.Proofs.Ytefdcjmfbjlinaa.Sc
