/- Push of heaps of the document's things. -/
import Derived.Test.YtlcbcagbiiachaaOpsT
import Derived.Test.YtlcbcagbiiachaaPush

namespace Go.Proofs.Ytlcbcagbiiachaa
open Go.RowKit

theorem infoET : (Try.prog.info? 82).map (fun i => (i.zero, i.size, i.bytes)) = some (some (.agg #[.int .i64 0, .int .i64 0, .int .u64 0]), 3, 24) := by kernel_rfl

set_option maxHeartbeats 1000000 in
theorem pushT (b : Nat) (F : List Nat) (came : Nat) (S : List ((Int × Int) × Nat)) (x : (Int × Int)) (w : World) (h : HT w b F came S) (hn : S.length < 900000) (hc : came < 900000) :
    Calls Try.prog 23 #[.pointer (some ⟨b, 0, none⟩), .agg #[.int .i64 x.1, .int .i64 x.2]] w fun e w' => e = .returned (.tuple #[]) ∧ ∃ F' : List Nat, HT w' b F' (came + 1) (ins keyT (x, came) S) ∧ Keeps F w w' ∧ ∀ k ∈ F', k ∈ F ∨ w.heap.size ≤ k := by
  obtain ⟨v, L, hp, hh, hb, hown, hv⟩ := h.owns eiT_len
  have hord := ins_ord (key := keyT) (x := (x, came)) h.1 h.2.1
  have hbF := h.mem
  have hat : ∀ y ∈ ins keyT (x, came) S, y.2 < came + 1 := by
    intro y hy
    have := (ins_perm (key := keyT) (x, came) S).mem_iff.1 hy
    simp only [List.mem_cons] at this
    rcases this with rfl | hy'
    · exact Nat.lt_succ_self _
    · have := h.2.1 y hy'; omega
  obtain ⟨i0, hi, hz0, hz1, hz2⟩ := info_parts infoET
  have hlen : L.length < 900000 := by rw [hp.length_eq]; exact hn
  have hbl := blk_lt hb
  have HB := Lib.hid hb
  have HO := Lib.hid hord
  have HA := Lib.hid hat
  have HP := Lib.hid hp
  have HH := Lib.hid hh
  have HV := Lib.hid hv
  have HOWN := Lib.hid hown
  clear hb hord hat hp hh hv hown
  have hvb : v.ownBlock ≠ some b := fun e => (HV.out b e).2 rfl
  have hl63 : L.length + 1 ≤ maxLen := by unfold maxLen; omega
  have hlby : (L.length + 1) * 24 ≤ 140737488355328 := by omega
  go_enter Try.func23, Try.ntmps23
  go_wp2_with fail
  have K0 : Keeps [] w (w.alloc (.cells #[.int .i64 x.1, .int .i64 x.2] 45)) := (Keeps.refl _ _).alloc _
  have hbx := blk_new w (.cells #[.int .i64 x.1, .int .i64 x.2] 45)
  have HB0 := Lib.hid (blk_alloc HB.out (.cells #[.int .i64 x.1, .int .i64 x.2] 45))
  have HOWN0 := Lib.hid (HOWN.out.alloc (.cells #[.int .i64 x.1, .int .i64 x.2] 45))
  clear HB HOWN
  generalize (w.alloc (.cells #[.int .i64 x.1, .int .i64 x.2] 45)) = w0 at K0 hbx HB0 HOWN0 ⊢
  have hsz0 := K0.size
  obtain ⟨bx, hbxe⟩ : ∃ bx, bx = w.heap.size := ⟨_, rfl⟩
  rw [← hbxe] at hbx
  have HBXE := Lib.hid hbxe
  try simp only [← hbxe]
  clear hbxe
  have x0 := cell_blk hbx 0
  have x1 := cell_blk hbx 1
  obtain ⟨h0, h1, h2, f0, f1, f2⟩ := facts3 HB0.out
  have n1 := World.new_ne w0 _ h1
  have n4 := World.new_ne w0 _ x0
  have hbl0 : b < w0.heap.size := blk_lt HB0.out
  have hblx : bx < w0.heap.size := blk_lt hbx
  have n3 := fun (c : Array Value) (t : TypeId) => frozen?_alloc_cells w0 c t ⟨b, 1, none⟩
  clear hbx

  go_region_law
    ((refine step_append_lies _ (by rfl) _ _ 78 (by rfl) 0 82 i0 _ 3 24 Try.underlying78 hi hz0 hz1 hz2 (by rfl) (by decide) v L.length (flat eiT L) (by rfl) (by exact HOWN0.out.alloc _) ⟨w0.heap.size, 0, none⟩ 1 1 (eiT (x, came)) (by rfl) (by rfl) (by exact World.news_of_block (blk_new w0 _)) (by simp [eiT, Value.oneCell']) (by decide) hl63 hlby (Nat.zero_le _) (w0.heap.size + 1) (by simp) ?_; intro g cap w3 hown3 hgrow3 hat3 hlt3; have hb3 := Lib.hid (blk_grown hgrow3 (blk_alloc HB0.out _) hvb); have hc3 := cell_blk hb3.out 1; have hf3 := free_blk hb3.out 1))
  all_goals
    have hc4 := cell_blk hb3.out 2
    have hf4 := free_blk hb3.out 2
    have hcw : (came : Int) + 1 < 18446744073709551616 := by omega
    clear h0 h1 h2 f0 f1 f2 n1 n3 n4 x0 x1
    have HROW := Lib.hid hown3
    have HG := Lib.hid hgrow3
    have HAT := Lib.hid hat3
    clear hown3 hgrow3 hat3
    go_wp2_with fail
    obtain ⟨cur, hr1, hr2, hr3, hr4, hr5⟩ := owns_row HROW.out
    have hgb : g ≠ b := by
      rcases HAT.out with h' | h'
      · exact (HV.out g h').2
      · omega
    have hgF : g ∈ F ∨ w0.heap.size ≤ g := by
      rcases HAT.out with h' | h'
      · exact .inl (HV.out g h').1
      · exact .inr (by omega)
    have hL1 : (L ++ [(x, came)]).length = L.length + 1 := by simp
    have hm4 : HMT ((w3.setCell ⟨b, 1, none⟩ (.slice (some ⟨g, 0, none⟩) (L.length + 1) cap)).setCell ⟨b, 2, none⟩ (.int .u64 ((came : Int) + 1))) b g cap (.int .u64 ((came : Int) + 1)) (L ++ [(x, came)]) := by
      refine ⟨?_, ⟨cur, blk_set_other (blk_set_other hr1 _ _ (Ne.symm hgb)) _ _ (Ne.symm hgb), hr2, ?_⟩, Ne.symm hgb, by rw [hL1]; exact hr3⟩
      · rw [hL1]
        have := blk_set_same (blk_set_same hb3.out 1 (.slice (some ⟨g, 0, none⟩) (L.length + 1) cap)) 2 (.int .u64 ((came : Int) + 1))
        simpa using this
      · rw [hL1, hr5, flat_append]
        simp [flat]
    have hk4 : Keeps F w0 ((w3.setCell ⟨b, 1, none⟩ (.slice (some ⟨g, 0, none⟩) (L.length + 1) cap)).setCell ⟨b, 2, none⟩ (.int .u64 ((came : Int) + 1))) :=
      ((Keeps.grown ((Keeps.refl F w0).alloc (.cells #[.int .i64 x.1, .int .i64 x.2, .int .u64 came] 82)).drew HG.out (fun k e => .inl (HV.out k e).1)).setCell b 1 _ (.inl hbF)).setCell b 2 _ (.inl hbF)
    have hup := up_start (key := keyT) (x, came) HH.out
    clear hr1 hr2 hr3 hr5 HROW HG hc3 hf3 hc4 hf4 hb3
    generalize ((w3.setCell ⟨b, 1, none⟩ (.slice (some ⟨g, 0, none⟩) (L.length + 1) cap)).setCell ⟨b, 2, none⟩ (.int .u64 ((came : Int) + 1))) = w4 at hm4 hk4 ⊢
    have HM4 := Lib.hid hm4
    have HUP := Lib.hid hup
    clear hm4 hup hL1
    go_loopg [4] (L.length) (fun gh iv wr => ∃ (i : Nat) (L' : List ((Int × Int) × Nat)), i ≤ gh ∧ iv = .int .i64 i ∧ i < L'.length ∧ L'.Perm (L ++ [(x, came)]) ∧ HMT wr b g cap (.int .u64 ((came : Int) + 1)) L' ∧ Up keyT L' i ∧ Keeps [g] w4 wr)
    case atStart => exact ⟨L.length, _, Nat.le_refl _, rfl, by simp, List.Perm.refl _, HM4.out, HUP.out, Keeps.refl _ _⟩
    case round =>
      obtain ⟨i, L', hgh, rfl, hi, hp, hm, hu, hK⟩ := hrel
      have hlen := hp.length_eq
      simp only [List.length_append, List.length_singleton] at hlen
      have HLEN := Lib.hid hlen
      have HPP := Lib.hid hp
      have HMM := Lib.hid hm
      have HUU := Lib.hid hu
      clear hlen hp hm hu HM4 HUP
      have fin : (i = 0 ∨ ¬ ahead keyT L'[i]! L'[par i]!) → HT wr b [b, g] (came + 1) (ins keyT (x, came) S) ∧ Keeps F w wr := fun hd =>
        ⟨⟨HO.out, HA.out, .inr ⟨g, cap, L', rfl, hr4, HPP.out.trans (((HP.out.append_right _).trans List.perm_append_comm).trans (ins_perm (key := keyT) (x, came) S).symm), up_done HUU.out hd, HMM.out⟩⟩,
          (K0.mono (by simp)).trans (hk4.andThen hK (by intro g' hg'; simp at hg'; subst hg'; exact hgF))⟩
      have hFF : ∀ k ∈ [b, g], k ∈ F ∨ w.heap.size ≤ k := by
        intro k hk; simp at hk; rcases hk with rfl | rfl
        · exact .inl hbF
        · exact hgF.imp id (fun h => Nat.le_trans hsz0 h)
      have HFIN := Lib.hid fin
      have HFF := Lib.hid hFF
      clear fin hFF
      by_cases hi0 : i = 0
      · subst hi0
        go_wp2
        go_returns
        have hf := HFIN.out (by simp)
        exact ⟨rfl, [b, g], hf.1, hf.2, HFF.out⟩
      · have hgd : decide (0 < i) = true := by simp; omega
        have hpar : ((i : Int) - 1) / 2 = ((par i : Nat) : Int) := by unfold par; omega
        have hpl : par i < i := by unfold par; omega
        have hil : (i : Int) < 1000000 := by have := HLEN.out; omega
        have HPAR := Lib.hid hpar
        have HPL := Lib.hid hpl
        have HI0 := Lib.hid hi0
        have HLN := Lib.hid hlen
        have HIL := Lib.hid hil
        have hw1 : IntKind.i64.wrap ((i : Int) - 1) = (i : Int) - 1 := IntWalk.i64_in _ (by omega)
        have hw2 : IntKind.i64.wrap (((i : Int) - 1).tdiv 2) = ((par i : Nat) : Int) := by rw [IntWalk.i64_quo _ _ (by have := HI0.out; omega)]; exact HPAR.out
        clear hpar hpl hi0 hlen hil hn hc hl63 hlby hcw hr4
        go_wp2_with fail
        refine (aheadT b g cap i (par i) _ L' _ HMM.out hi (by have := HPL.out; omega) (by have := HLEN.out; have := HLN.out; omega)).mono ?_
        rintro e w5 ⟨rfl, K5⟩
        by_cases ha : ahead keyT L'[i]! L'[par i]!
        · have t3 : decide (ahead keyT L'[i]! L'[par i]!) = true := by simpa using ha
          rw [t3]
          go_wp2_with fail
          refine (swapT_of b g cap i (par i) _ L' _ (HMM.out.keeps K5 (by simp) (by simp)) hi (by have := HPL.out; omega) (by have := HLEN.out; have := HLN.out; omega)).mono ?_
          rintro e w6 ⟨rfl, hm6, K6⟩
          have hs : HMT w6 b g cap (.int .u64 ((came : Int) + 1)) (sw L' i (par i)) ∧ Up keyT (sw L' i (par i)) (par i) ∧ par i < (sw L' i (par i)).length ∧ (sw L' i (par i)).Perm (L ++ [(x, came)]) ∧ Keeps [g] w4 w6 :=
            ⟨hm6, up_step HUU.out (by have := HI0.out; omega) hi ha, by rw [length_sw]; have := HPL.out; omega, (perm_sw L' i (par i) hi (by have := HPL.out; omega)).trans HPP.out, (hK.trans (K5.mono (by simp))).trans K6⟩
          have HSS := Lib.hid hs
          clear hs hm6 K6
          go_wp2
          go_roundg (par i)
          case rel => exact ⟨par i, _, Nat.le_refl _, rfl, HSS.out.2.2.1, HSS.out.2.2.2.1, HSS.out.1, HSS.out.2.1, HSS.out.2.2.2.2⟩
          case measure => have := HPL.out; omega
        · have t3 : decide (ahead keyT L'[i]! L'[par i]!) = false := by simpa using ha
          rw [t3]
          go_wp2
          go_returns
          have hf := HFIN.out (.inr ha)
          exact ⟨rfl, [b, g], hf.1.kept K5 (by simp), hf.2.andThen K5 (by simp), HFF.out⟩

end Go.Proofs.Ytlcbcagbiiachaa
