/- Push of a heap. -/
import Derived.Test.YtlcbcagbiiachaaOps
import Derived.Deep.AppendLies
import Derived.Deep.LoopGhost
import Derived.Deep.RegionHeld3
import Derived.Deep.RegionLaw
namespace Go.Proofs.Ytlcbcagbiiachaa
open Go.RowKit

theorem owns_row {w : World} {base : Nat} {e : TypeId} {sz g n cap : Nat} {xs : List Value} (h : w.ownsRow base e sz (.slice (some ⟨g, 0, none⟩) n cap) n xs) :
    ∃ cur : Array Value, w.heap[g]? = some (.cells cur e (0, 0)) ∧ cur.size = cap * sz ∧ n ≤ cap ∧ cap ≤ maxLen ∧ cur.toList.take (n * sz) = xs := by
  rcases h.2 with ⟨h1, _⟩ | ⟨g', cap', cur, h1, h2, h3, h4, h5, h6, h7⟩
  · simp at h1
  · simp only [Value.slice.injEq, Option.some.injEq, Addr.mk.injEq, and_true, true_and] at h1
    obtain ⟨rfl, rfl⟩ := h1
    exact ⟨cur, h3, h6, h4, h5, h7⟩

/-- The slice of a heap, as what it owns. -/
theorem IsHeap.owns {α : Type} [Inhabited α] {key : α → Int} {ei : α × Nat → List Value} {sz less T E : Nat} (hei : ∀ p, (ei p).length = sz) {w : World} {b : Nat} {F : List Nat} {came : Nat} {S : List (α × Nat)} (h : IsHeap key ei sz less T E w b F came S) :
    ∃ (v : Value) (L : List (α × Nat)), L.Perm S ∧ Hp key L ∧ w.heap[b]? = some (.cells #[.func (.func less) #[] #[], v, .int .u64 came] T (0, 0)) ∧ w.ownsRow 0 E sz v L.length (flat ei L) ∧
      (∀ g, v.ownBlock = some g → g ∈ F ∧ g ≠ b) := by
  obtain ⟨h1, h2, h3⟩ := h
  rcases h3 with ⟨rfl, rfl, h5⟩ | ⟨g, cap, L, rfl, h4, h5, h6, h7⟩
  · exact ⟨_, [], List.Perm.refl _, fun j _ hj => by simp at hj, h5, World.ownsRow_nil _ _ _ _, fun g hg => by cases hg⟩
  · obtain ⟨cur, hg, hcs, ht⟩ := h7.hg
    exact ⟨_, L, h5, h6, h7.hb, ⟨length_flat (ei := ei) hei L, .inr ⟨g, cap, cur, rfl, Nat.zero_le _, hg, h7.hcap, h4, hcs, ht⟩⟩, fun g' hg' => by cases hg'; exact ⟨by simp, Ne.symm h7.hbg⟩⟩

theorem blk_grown_any {w w' : World} {b : Nat} {o : Obj} {row : Option Nat} (hg : w.grownBy w' row) (h : w.heap[b]? = some o) (hne : ∀ k, row = some k → k ≠ b) : w'.heap[b]? = some o :=
  blk_grown hg h (fun e => hne b e rfl)

theorem infoEI : (Try.prog.info? 84).map (fun i => (i.zero, i.size, i.bytes)) = some (some (.agg #[.int .i64 0, .int .u64 0]), 2, 16) := by kernel_rfl

set_option maxHeartbeats 1000000 in
theorem pushI (b : Nat) (F : List Nat) (came : Nat) (S : List (Int × Nat)) (x : Int) (w : World) (h : HI w b F came S) (hn : S.length < 900000) (hc : came < 900000) :
    Calls Try.prog 26 #[.pointer (some ⟨b, 0, none⟩), .int .i64 x] w fun e w' => e = .returned (.tuple #[]) ∧ ∃ F' : List Nat, HI w' b F' (came + 1) (ins keyI (x, came) S) ∧ Keeps F w w' ∧ ∀ k ∈ F', k ∈ F ∨ w.heap.size ≤ k := by
  obtain ⟨v, L, hp, hh, hb, hown, hv⟩ := h.owns eiI_len
  have hord := ins_ord (key := keyI) (x := (x, came)) h.1 h.2.1
  have hbF := h.mem
  have hat : ∀ y ∈ ins keyI (x, came) S, y.2 < came + 1 := by
    intro y hy
    have := (ins_perm (key := keyI) (x, came) S).mem_iff.1 hy
    simp only [List.mem_cons] at this
    rcases this with rfl | hy'
    · exact Nat.lt_succ_self _
    · have := h.2.1 y hy'; omega
  obtain ⟨i0, hi, hz0, hz1, hz2⟩ := info_parts infoEI
  have hlen : L.length < 900000 := by rw [hp.length_eq]; exact hn
  obtain ⟨h0, h1, h2, f0, f1, f2⟩ := facts3 hb
  have hbl := blk_lt hb
  have HB := Lib.hid hb
  have HO := Lib.hid hord
  have HA := Lib.hid hat
  have HP := Lib.hid hp
  have HH := Lib.hid hh
  have HV := Lib.hid hv
  have HOWN := Lib.hid hown
  clear hb hord hat hp hh hv hown
  have hvb : v.ownBlock ≠ some b := fun e => (HV.out b e).2 rfl
  have hl63 : L.length + 1 ≤ maxLen := by unfold maxLen; omega
  have hlby : (L.length + 1) * 16 ≤ 140737488355328 := by omega
  have n1 := World.new_ne w _ h1
  have n2 := World.new_ne w _ h2
  have n3 := fun (c : Array Value) (t : TypeId) => frozen?_alloc_cells w c t ⟨b, 1, none⟩
  go_enter Try.func26, Try.ntmps26
  go_wp2_with fail
  go_region_law
    ((refine step_append_lies _ (by rfl) _ _ 68 (by rfl) 0 84 i0 _ 2 16 Try.underlying68 hi hz0 hz1 hz2 (by rfl) (by decide) v L.length (flat eiI L) (by rfl) (by exact HOWN.out.alloc _) ⟨w.heap.size, 0, none⟩ 1 1 (eiI (x, came)) (by rfl) (by rfl) (by exact World.news_of_block (blk_new w _)) (by simp [eiI, Value.oneCell']) (by decide) hl63 hlby (Nat.zero_le _) (w.heap.size + 1) (by simp) ?_; intro g cap w3 hown3 hgrow3 hat3 hlt3; have hb3 := Lib.hid (blk_grown hgrow3 (blk_alloc HB.out _) hvb); have hc3 := cell_blk hb3.out 1; have hf3 := free_blk hb3.out 1))
  all_goals
    have hc4 := cell_blk hb3.out 2
    have hf4 := free_blk hb3.out 2
    have hcw : (came : Int) + 1 < 18446744073709551616 := by omega
    clear h0 h1 h2 f0 f1 f2 n1 n2 n3
    have HROW := Lib.hid hown3
    have HG := Lib.hid hgrow3
    have HAT := Lib.hid hat3
    clear hown3 hgrow3 hat3
    go_wp2_with fail
    obtain ⟨cur, hr1, hr2, hr3, hr4, hr5⟩ := owns_row HROW.out
    have hgb : g ≠ b := by
      rcases HAT.out with h' | h'
      · exact (HV.out g h').2
      · omega
    have hgF : g ∈ F ∨ w.heap.size ≤ g := by
      rcases HAT.out with h' | h'
      · exact .inl (HV.out g h').1
      · exact .inr (by omega)
    have hL1 : (L ++ [(x, came)]).length = L.length + 1 := by simp
    have hm4 : HMI ((w3.setCell ⟨b, 1, none⟩ (.slice (some ⟨g, 0, none⟩) (L.length + 1) cap)).setCell ⟨b, 2, none⟩ (.int .u64 ((came : Int) + 1))) b g cap (.int .u64 ((came : Int) + 1)) (L ++ [(x, came)]) := by
      refine ⟨?_, ⟨cur, blk_set_other (blk_set_other hr1 _ _ (Ne.symm hgb)) _ _ (Ne.symm hgb), hr2, ?_⟩, Ne.symm hgb, by rw [hL1]; exact hr3⟩
      · rw [hL1]
        have := blk_set_same (blk_set_same hb3.out 1 (.slice (some ⟨g, 0, none⟩) (L.length + 1) cap)) 2 (.int .u64 ((came : Int) + 1))
        simpa using this
      · rw [hL1, hr5, flat_append]
        simp [flat]
    have hk4 : Keeps F w ((w3.setCell ⟨b, 1, none⟩ (.slice (some ⟨g, 0, none⟩) (L.length + 1) cap)).setCell ⟨b, 2, none⟩ (.int .u64 ((came : Int) + 1))) :=
      ((Keeps.grown ((Keeps.refl F w).alloc (.cells #[.int .i64 x, .int .u64 came] 84)).drew HG.out (fun k e => .inl (HV.out k e).1)).setCell b 1 _ (.inl hbF)).setCell b 2 _ (.inl hbF)
    have hup := up_start (key := keyI) (x, came) HH.out
    clear hr1 hr2 hr3 hr5 HROW HG hc3 hf3 hc4 hf4 hb3
    generalize ((w3.setCell ⟨b, 1, none⟩ (.slice (some ⟨g, 0, none⟩) (L.length + 1) cap)).setCell ⟨b, 2, none⟩ (.int .u64 ((came : Int) + 1))) = w4 at hm4 hk4 ⊢
    have HM4 := Lib.hid hm4
    have HUP := Lib.hid hup
    clear hm4 hup hL1
    go_loopg [4] (L.length) (fun gh iv wr => ∃ (i : Nat) (L' : List (Int × Nat)), i ≤ gh ∧ iv = .int .i64 i ∧ i < L'.length ∧ L'.Perm (L ++ [(x, came)]) ∧ HMI wr b g cap (.int .u64 ((came : Int) + 1)) L' ∧ Up keyI L' i ∧ Keeps [g] w4 wr)
    case atStart => exact ⟨L.length, _, Nat.le_refl _, rfl, by simp, List.Perm.refl _, HM4.out, HUP.out, Keeps.refl _ _⟩
    case round =>
      obtain ⟨i, L', hgh, rfl, hi, hp, hm, hu, hK⟩ := hrel
      have hlen := hp.length_eq
      simp only [List.length_append, List.length_singleton] at hlen
      have HLEN := Lib.hid hlen
      have HPP := Lib.hid hp
      have HMM := Lib.hid hm
      have HUU := Lib.hid hu
      clear hlen hp hm hu HM4 HUP
      have fin : (i = 0 ∨ ¬ ahead keyI L'[i]! L'[par i]!) → HI wr b [b, g] (came + 1) (ins keyI (x, came) S) ∧ Keeps F w wr := fun hd =>
        ⟨⟨HO.out, HA.out, .inr ⟨g, cap, L', rfl, hr4, HPP.out.trans (((HP.out.append_right _).trans List.perm_append_comm).trans (ins_perm (key := keyI) (x, came) S).symm), up_done HUU.out hd, HMM.out⟩⟩,
          hk4.andThen hK (by intro g' hg'; simp at hg'; subst hg'; exact hgF)⟩
      have hFF : ∀ k ∈ [b, g], k ∈ F ∨ w.heap.size ≤ k := by
        intro k hk; simp at hk; rcases hk with rfl | rfl
        · exact .inl hbF
        · exact hgF
      have HFIN := Lib.hid fin
      have HFF := Lib.hid hFF
      clear fin hFF
      by_cases hi0 : i = 0
      · subst hi0
        go_wp2
        go_returns
        have hf := HFIN.out (by simp)
        exact ⟨rfl, [b, g], hf.1, hf.2, HFF.out⟩
      · have hgd : decide (0 < i) = true := by simp; omega
        have hpar : ((i : Int) - 1) / 2 = ((par i : Nat) : Int) := by unfold par; omega
        have hpl : par i < i := by unfold par; omega
        have hil : (i : Int) < 1000000 := by have := HLEN.out; omega
        have HPAR := Lib.hid hpar
        have HPL := Lib.hid hpl
        have HI0 := Lib.hid hi0
        have HLN := Lib.hid hlen
        have HIL := Lib.hid hil
        have hw1 : IntKind.i64.wrap ((i : Int) - 1) = (i : Int) - 1 := IntWalk.i64_in _ (by omega)
        have hw2 : IntKind.i64.wrap (((i : Int) - 1).tdiv 2) = ((par i : Nat) : Int) := by rw [IntWalk.i64_quo _ _ (by have := HI0.out; omega)]; exact HPAR.out
        clear hpar hpl hi0 hlen hil hn hc hl63 hlby hcw hr4
        go_wp2_with fail
        refine (aheadI b g cap i (par i) _ L' _ HMM.out hi (by have := HPL.out; omega) (by have := HLEN.out; have := HLN.out; omega)).mono ?_
        rintro e w5 ⟨rfl, K5⟩
        by_cases ha : ahead keyI L'[i]! L'[par i]!
        · have t3 : decide (ahead keyI L'[i]! L'[par i]!) = true := by simpa using ha
          rw [t3]
          go_wp2_with fail
          refine (swapI_of b g cap i (par i) _ L' _ (HMM.out.keeps K5 (by simp) (by simp)) hi (by have := HPL.out; omega) (by have := HLEN.out; have := HLN.out; omega)).mono ?_
          rintro e w6 ⟨rfl, hm6, K6⟩
          have hs : HMI w6 b g cap (.int .u64 ((came : Int) + 1)) (sw L' i (par i)) ∧ Up keyI (sw L' i (par i)) (par i) ∧ par i < (sw L' i (par i)).length ∧ (sw L' i (par i)).Perm (L ++ [(x, came)]) ∧ Keeps [g] w4 w6 :=
            ⟨hm6, up_step HUU.out (by have := HI0.out; omega) hi ha, by rw [length_sw]; have := HPL.out; omega, (perm_sw L' i (par i) hi (by have := HPL.out; omega)).trans HPP.out, (hK.trans (K5.mono (by simp))).trans K6⟩
          have HSS := Lib.hid hs
          clear hs hm6 K6
          go_wp2
          go_roundg (par i)
          case rel => exact ⟨par i, _, Nat.le_refl _, rfl, HSS.out.2.2.1, HSS.out.2.2.2.1, HSS.out.1, HSS.out.2.1, HSS.out.2.2.2.2⟩
          case measure => have := HPL.out; omega
        · have t3 : decide (ahead keyI L'[i]! L'[par i]!) = false := by simpa using ha
          rw [t3]
          go_wp2
          go_returns
          have hf := HFIN.out (.inr ha)
          exact ⟨rfl, [b, g], hf.1.kept K5 (by simp), hf.2.andThen K5 (by simp), HFF.out⟩

theorem infoES : (Try.prog.info? 76).map (fun i => (i.zero, i.size, i.bytes)) = some (some (.agg #[.string ⟨#[]⟩, .int .u64 0]), 2, 24) := by kernel_rfl

set_option maxHeartbeats 1000000 in
theorem pushS (b : Nat) (F : List Nat) (came : Nat) (S : List (ByteArray × Nat)) (x : ByteArray) (w : World) (h : HS w b F came S) (hn : S.length < 900000) (hc : came < 900000) :
    Calls Try.prog 13 #[.pointer (some ⟨b, 0, none⟩), .string x] w fun e w' => e = .returned (.tuple #[]) ∧ ∃ F' : List Nat, HS w' b F' (came + 1) (ins keyS (x, came) S) ∧ Keeps F w w' ∧ ∀ k ∈ F', k ∈ F ∨ w.heap.size ≤ k := by
  obtain ⟨v, L, hp, hh, hb, hown, hv⟩ := h.owns eiS_len
  have hord := ins_ord (key := keyS) (x := (x, came)) h.1 h.2.1
  have hbF := h.mem
  have hat : ∀ y ∈ ins keyS (x, came) S, y.2 < came + 1 := by
    intro y hy
    have := (ins_perm (key := keyS) (x, came) S).mem_iff.1 hy
    simp only [List.mem_cons] at this
    rcases this with rfl | hy'
    · exact Nat.lt_succ_self _
    · have := h.2.1 y hy'; omega
  obtain ⟨i0, hi, hz0, hz1, hz2⟩ := info_parts infoES
  have hlen : L.length < 900000 := by rw [hp.length_eq]; exact hn
  obtain ⟨h0, h1, h2, f0, f1, f2⟩ := facts3 hb
  have hbl := blk_lt hb
  have HB := Lib.hid hb
  have HO := Lib.hid hord
  have HA := Lib.hid hat
  have HP := Lib.hid hp
  have HH := Lib.hid hh
  have HV := Lib.hid hv
  have HOWN := Lib.hid hown
  clear hb hord hat hp hh hv hown
  have hvb : v.ownBlock ≠ some b := fun e => (HV.out b e).2 rfl
  have hl63 : L.length + 1 ≤ maxLen := by unfold maxLen; omega
  have hlby : (L.length + 1) * 24 ≤ 140737488355328 := by omega
  have n1 := World.new_ne w _ h1
  have n2 := World.new_ne w _ h2
  have n3 := fun (c : Array Value) (t : TypeId) => frozen?_alloc_cells w c t ⟨b, 1, none⟩
  go_enter Try.func13, Try.ntmps13
  go_wp2_with fail
  go_region_law
    ((refine step_append_lies _ (by rfl) _ _ 72 (by rfl) 0 76 i0 _ 2 24 Try.underlying72 hi hz0 hz1 hz2 (by rfl) (by decide) v L.length (flat eiS L) (by rfl) (by exact HOWN.out.alloc _) ⟨w.heap.size, 0, none⟩ 1 1 (eiS (x, came)) (by rfl) (by rfl) (by exact World.news_of_block (blk_new w _)) (by simp [eiS, Value.oneCell']) (by decide) hl63 hlby (Nat.zero_le _) (w.heap.size + 1) (by simp) ?_; intro g cap w3 hown3 hgrow3 hat3 hlt3; have hb3 := Lib.hid (blk_grown hgrow3 (blk_alloc HB.out _) hvb); have hc3 := cell_blk hb3.out 1; have hf3 := free_blk hb3.out 1))
  all_goals
    have hc4 := cell_blk hb3.out 2
    have hf4 := free_blk hb3.out 2
    have hcw : (came : Int) + 1 < 18446744073709551616 := by omega
    clear h0 h1 h2 f0 f1 f2 n1 n2 n3
    have HROW := Lib.hid hown3
    have HG := Lib.hid hgrow3
    have HAT := Lib.hid hat3
    clear hown3 hgrow3 hat3
    go_wp2_with fail
    obtain ⟨cur, hr1, hr2, hr3, hr4, hr5⟩ := owns_row HROW.out
    have hgb : g ≠ b := by
      rcases HAT.out with h' | h'
      · exact (HV.out g h').2
      · omega
    have hgF : g ∈ F ∨ w.heap.size ≤ g := by
      rcases HAT.out with h' | h'
      · exact .inl (HV.out g h').1
      · exact .inr (by omega)
    have hL1 : (L ++ [(x, came)]).length = L.length + 1 := by simp
    have hm4 : HMS ((w3.setCell ⟨b, 1, none⟩ (.slice (some ⟨g, 0, none⟩) (L.length + 1) cap)).setCell ⟨b, 2, none⟩ (.int .u64 ((came : Int) + 1))) b g cap (.int .u64 ((came : Int) + 1)) (L ++ [(x, came)]) := by
      refine ⟨?_, ⟨cur, blk_set_other (blk_set_other hr1 _ _ (Ne.symm hgb)) _ _ (Ne.symm hgb), hr2, ?_⟩, Ne.symm hgb, by rw [hL1]; exact hr3⟩
      · rw [hL1]
        have := blk_set_same (blk_set_same hb3.out 1 (.slice (some ⟨g, 0, none⟩) (L.length + 1) cap)) 2 (.int .u64 ((came : Int) + 1))
        simpa using this
      · rw [hL1, hr5, flat_append]
        simp [flat]
    have hk4 : Keeps F w ((w3.setCell ⟨b, 1, none⟩ (.slice (some ⟨g, 0, none⟩) (L.length + 1) cap)).setCell ⟨b, 2, none⟩ (.int .u64 ((came : Int) + 1))) :=
      ((Keeps.grown ((Keeps.refl F w).alloc (.cells #[.string x, .int .u64 came] 76)).drew HG.out (fun k e => .inl (HV.out k e).1)).setCell b 1 _ (.inl hbF)).setCell b 2 _ (.inl hbF)
    have hup := up_start (key := keyS) (x, came) HH.out
    clear hr1 hr2 hr3 hr5 HROW HG hc3 hf3 hc4 hf4 hb3
    generalize ((w3.setCell ⟨b, 1, none⟩ (.slice (some ⟨g, 0, none⟩) (L.length + 1) cap)).setCell ⟨b, 2, none⟩ (.int .u64 ((came : Int) + 1))) = w4 at hm4 hk4 ⊢
    have HM4 := Lib.hid hm4
    have HUP := Lib.hid hup
    clear hm4 hup hL1
    go_loopg [4] (L.length) (fun gh iv wr => ∃ (i : Nat) (L' : List (ByteArray × Nat)), i ≤ gh ∧ iv = .int .i64 i ∧ i < L'.length ∧ L'.Perm (L ++ [(x, came)]) ∧ HMS wr b g cap (.int .u64 ((came : Int) + 1)) L' ∧ Up keyS L' i ∧ Keeps [g] w4 wr)
    case atStart => exact ⟨L.length, _, Nat.le_refl _, rfl, by simp, List.Perm.refl _, HM4.out, HUP.out, Keeps.refl _ _⟩
    case round =>
      obtain ⟨i, L', hgh, rfl, hi, hp, hm, hu, hK⟩ := hrel
      have hlen := hp.length_eq
      simp only [List.length_append, List.length_singleton] at hlen
      have HLEN := Lib.hid hlen
      have HPP := Lib.hid hp
      have HMM := Lib.hid hm
      have HUU := Lib.hid hu
      clear hlen hp hm hu HM4 HUP
      have fin : (i = 0 ∨ ¬ ahead keyS L'[i]! L'[par i]!) → HS wr b [b, g] (came + 1) (ins keyS (x, came) S) ∧ Keeps F w wr := fun hd =>
        ⟨⟨HO.out, HA.out, .inr ⟨g, cap, L', rfl, hr4, HPP.out.trans (((HP.out.append_right _).trans List.perm_append_comm).trans (ins_perm (key := keyS) (x, came) S).symm), up_done HUU.out hd, HMM.out⟩⟩,
          hk4.andThen hK (by intro g' hg'; simp at hg'; subst hg'; exact hgF)⟩
      have hFF : ∀ k ∈ [b, g], k ∈ F ∨ w.heap.size ≤ k := by
        intro k hk; simp at hk; rcases hk with rfl | rfl
        · exact .inl hbF
        · exact hgF
      have HFIN := Lib.hid fin
      have HFF := Lib.hid hFF
      clear fin hFF
      by_cases hi0 : i = 0
      · subst hi0
        go_wp2
        go_returns
        have hf := HFIN.out (by simp)
        exact ⟨rfl, [b, g], hf.1, hf.2, HFF.out⟩
      · have hgd : decide (0 < i) = true := by simp; omega
        have hpar : ((i : Int) - 1) / 2 = ((par i : Nat) : Int) := by unfold par; omega
        have hpl : par i < i := by unfold par; omega
        have hil : (i : Int) < 1000000 := by have := HLEN.out; omega
        have HPAR := Lib.hid hpar
        have HPL := Lib.hid hpl
        have HI0 := Lib.hid hi0
        have HLN := Lib.hid hlen
        have HIL := Lib.hid hil
        have hw1 : IntKind.i64.wrap ((i : Int) - 1) = (i : Int) - 1 := IntWalk.i64_in _ (by omega)
        have hw2 : IntKind.i64.wrap (((i : Int) - 1).tdiv 2) = ((par i : Nat) : Int) := by rw [IntWalk.i64_quo _ _ (by have := HI0.out; omega)]; exact HPAR.out
        clear hpar hpl hi0 hlen hil hn hc hl63 hlby hcw hr4
        go_wp2_with fail
        refine (aheadS b g cap i (par i) _ L' _ HMM.out hi (by have := HPL.out; omega) (by have := HLEN.out; have := HLN.out; omega)).mono ?_
        rintro e w5 ⟨rfl, K5⟩
        by_cases ha : ahead keyS L'[i]! L'[par i]!
        · have t3 : decide (ahead keyS L'[i]! L'[par i]!) = true := by simpa using ha
          rw [t3]
          go_wp2_with fail
          refine (swapS_of b g cap i (par i) _ L' _ (HMM.out.keeps K5 (by simp) (by simp)) hi (by have := HPL.out; omega) (by have := HLEN.out; have := HLN.out; omega)).mono ?_
          rintro e w6 ⟨rfl, hm6, K6⟩
          have hs : HMS w6 b g cap (.int .u64 ((came : Int) + 1)) (sw L' i (par i)) ∧ Up keyS (sw L' i (par i)) (par i) ∧ par i < (sw L' i (par i)).length ∧ (sw L' i (par i)).Perm (L ++ [(x, came)]) ∧ Keeps [g] w4 w6 :=
            ⟨hm6, up_step HUU.out (by have := HI0.out; omega) hi ha, by rw [length_sw]; have := HPL.out; omega, (perm_sw L' i (par i) hi (by have := HPL.out; omega)).trans HPP.out, (hK.trans (K5.mono (by simp))).trans K6⟩
          have HSS := Lib.hid hs
          clear hs hm6 K6
          go_wp2
          go_roundg (par i)
          case rel => exact ⟨par i, _, Nat.le_refl _, rfl, HSS.out.2.2.1, HSS.out.2.2.2.1, HSS.out.1, HSS.out.2.1, HSS.out.2.2.2.2⟩
          case measure => have := HPL.out; omega
        · have t3 : decide (ahead keyS L'[i]! L'[par i]!) = false := by simpa using ha
          rw [t3]
          go_wp2
          go_returns
          have hf := HFIN.out (.inr ha)
          exact ⟨rfl, [b, g], hf.1.kept K5 (by simp), hf.2.andThen K5 (by simp), HFF.out⟩

end Go.Proofs.Ytlcbcagbiiachaa
