/- looks: is a queue what the document's own is? -/
import Derived.Test.YtoecfimmgiajpaaFind
import Derived.Deep.LoopGhost
import Derived.StillTactics
import Derived.StillTailTactics
import Derived.Test.YtoecfimmgiajpaaQuiet
namespace Go.Proofs.Ytoecfimmgiajpaa
open Go.RowKit Go.Shelf
attribute [local go_sem] Oper.semAt_some

/-- The cells of the document's queue. -/
theorem MQ.facts {W : World} {m : Nat} {G : List Nat} {ys : List Int} {most : Nat} (h : MQ W m G ys most) :
    ∃ a cap, W.cell? ⟨m, 0, none⟩ = some (.slice a ys.length cap) ∧ W.cell? ⟨m, 1, none⟩ = some (.int .i64 (most : Int)) ∧ ys.length ≤ most ∧ ∀ i x, ys[i]? = some x → ∃ g o, a = some ⟨g, o, none⟩ ∧ W.cell? ⟨g, o + i, none⟩ = some (.int .i64 x) := by
  obtain ⟨a, cap, hb, hmG, hcap, hmost, hnone, hrow⟩ := h
  refine ⟨a, cap, cell_blk hb 0, cell_blk hb 1, hmost, fun i x hx => ?_⟩
  obtain ⟨g, o, cs, ha, hg, hgm, hgb, hc⟩ := hrow (by rintro rfl; simp at hx)
  exact ⟨g, o, ha, (cell_blk hgb _).trans (hc i x hx)⟩

theorem mq_survive {W W' : World} {m : Nat} {G : List Nat} {ys : List Int} {most : Nat} {row : Option Nat} (hg : W.grownBy W' row) {B : Nat} (hr : ∀ r, row = some r → B ≤ r ∧ ∃ o : Obj, W.heap[r]? = some o ∧ o.isCells = false)
    (h : MQ W m G ys most) : MQ W' m G ys most := by
  obtain ⟨a, cap, hb, hmG, hcap, hmost, hnone, hrow⟩ := h
  refine ⟨a, cap, cells_survive hg hr hb, hmG, hcap, hmost, hnone, fun hne => ?_⟩
  obtain ⟨g, o, cs, ha, hgG, hgm, hgb, hc⟩ := hrow hne
  exact ⟨g, o, cs, ha, hgG, hgm, cells_survive hg hr hgb, hc⟩

/-- A pair that is not the next one ends no beginning of the pairs. -/
theorem no_next {l : List Int} {pre : List (Nat × Int)} {i : Nat} {x : Int} (hlen : pre.length < l.length) (h : i ≠ pre.length ∨ l[pre.length]? ≠ some x) : ¬ ∃ k, k ≤ l.length ∧ pre ++ [(i, x)] = pairs (l.take k) := by
  rintro ⟨j, -, hj⟩
  have h1 : (pre ++ [(i, x)])[pre.length]? = some (i, x) := by simp
  rw [hj] at h1
  simp only [pairs, List.getElem?_mapIdx, Option.map_eq_some_iff] at h1
  obtain ⟨y, hy, he⟩ := h1
  simp only [Prod.mk.injEq] at he
  rw [List.getElem?_take] at hy
  split at hy
  · rcases h with h | h
    · exact h he.1.symm
    · rw [hy, he.2] at h; exact h rfl
  · cases hy

theorem MQ.small {W : World} {m : Nat} {G : List Nat} {ys : List Int} {most : Nat} (h : MQ W m G ys most) : ∃ G', MQ W m G' ys most ∧ ∀ k ∈ G', k < W.heap.size := by
  obtain ⟨a, cap, hb, hmG, hcap, hmost, hnone, hrow⟩ := h
  by_cases hne : ys = []
  · exact ⟨[m], ⟨a, cap, hb, by simp, hcap, hmost, hnone, fun h => absurd hne h⟩, by simpa using blk_lt hb⟩
  · obtain ⟨g, o, cs, ha, hgG, hgm, hgb, hc⟩ := hrow hne
    refine ⟨[m, g], ⟨a, cap, hb, by simp, hcap, hmost, hnone, fun _ => ⟨g, o, cs, ha, by simp, hgm, hgb, hc⟩⟩, ?_⟩
    intro k hk
    simp at hk
    rcases hk with rfl | rfl
    · exact blk_lt hb
    · exact blk_lt hgb

theorem find_at {l : List Int} {k : Nat} {x : Int} (hx : l[k]? = some x) (hpre : ∀ y ∈ l.take k, isEven y = false) (he : isEven x = true) : found l = (x, true) := by
  have hk : k < l.length := by
    rcases Nat.lt_or_ge k l.length with h' | h'
    · exact h'
    · rw [List.getElem?_eq_none h'] at hx; cases hx
  have e : l = l.take k ++ (x :: l.drop (k + 1)) := by
    have e1 : l[k] = x := by simpa [hk] using hx
    rw [← e1, ← List.drop_eq_getElem_cons hk, List.take_append_drop]
  unfold found
  rw [e, List.find?_append, List.find?_eq_none.2 (by intro y hy; simp [hpre y hy])]
  simp [he]
theorem find_none_l {l : List Int} (hpre : ∀ y ∈ l, isEven y = false) : found l = (0, false) := by
  unfold found
  rw [List.find?_eq_none.2 (by intro y hy; simp [hpre y hy])]
theorem MQ.lt {W : World} {m : Nat} {G : List Nat} {ys : List Int} {most : Nat} (h : MQ W m G ys most) : m < W.heap.size := by
  obtain ⟨a, cap, hb, -⟩ := h
  exact blk_lt hb

set_option maxHeartbeats 2000000 in
set_option maxRecDepth 100000 in
theorem looks_true (b : Nat) (F : List Nat) (size : Nat) (l : List Int) (m : Nat) (G0 : List Nat) (most : Nat) (w : World) (hq : QI w b F size l) (hm : MQ w m G0 l most) (hlen : l.length ≤ 1000) (hsz : size ≤ 8 + 4 * most) (hmx : most ≤ 1000) (hle : l.length ≤ size) :
    Calls Try.prog 23 #[.pointer (some ⟨b, 0, none⟩), .pointer (some ⟨m, 0, none⟩)] w fun e w' => e = .returned (.bool true) ∧ Keeps [] w w' := by
  obtain ⟨G, hm, hGlt⟩ := hm.small
  have HQ := Lib.hid hq
  have HM := Lib.hid hm
  have HGL := Lib.hid hGlt
  clear hGlt
  have hsz' : size ≤ 3000000 := by omega
  clear hq hm
  have hfn := allNotNil
  refine (callsIn_wide (n := 9)).1 ?_
  refine callsIn_of_wp_marks Try.func23 rfl trivial ?_ rfl
  simp only [Try.ntmps23, List.size_toArray, List.length_cons, List.length_nil, Nat.reduceAdd, Nat.reduceSub, Array.replicate_succ, Array.replicate_zero, List.push_toArray, List.append_toArray, List.nil_append, List.cons_append]
  refine wpIn_wide.2 ?_
  go_wp2_with fail
  refine (allI _ _).mono ?_
  rintro e w' ⟨rfl, rfl⟩
  simp only [World.size_alloc]
  have K0 : Keeps [] w (((w.alloc (.cells #[.pointer (some ⟨m, 0, none⟩)] 48)).alloc (.cells #[.bool false] 4)).alloc (.cells #[.pointer (some ⟨b, 0, none⟩)] 33)) := (((Keeps.refl _ _).alloc _).alloc _).alloc _
  have m0 : (((w.alloc (.cells #[.pointer (some ⟨m, 0, none⟩)] 48)).alloc (.cells #[.bool false] 4)).alloc (.cells #[.pointer (some ⟨b, 0, none⟩)] 33)).heap[w.heap.size]? = some (.cells #[.pointer (some ⟨m, 0, none⟩)] 48 (0, 0)) := blk_alloc (blk_alloc (blk_new _ _) _) _
  have r0 : (((w.alloc (.cells #[.pointer (some ⟨m, 0, none⟩)] 48)).alloc (.cells #[.bool false] 4)).alloc (.cells #[.pointer (some ⟨b, 0, none⟩)] 33)).heap[w.heap.size + 1]? = some (.cells #[.bool false] 4 (0, 0)) := blk_alloc (by simpa using blk_new (w.alloc _) _) _
  have x0 : (((w.alloc (.cells #[.pointer (some ⟨m, 0, none⟩)] 48)).alloc (.cells #[.bool false] 4)).alloc (.cells #[.pointer (some ⟨b, 0, none⟩)] 33)).heap[w.heap.size + 1 + 1]? = some (.cells #[.pointer (some ⟨b, 0, none⟩)] 33 (0, 0)) := by simpa using blk_new ((w.alloc _).alloc _) _
  have z0 : (((w.alloc (.cells #[.pointer (some ⟨m, 0, none⟩)] 48)).alloc (.cells #[.bool false] 4)).alloc (.cells #[.pointer (some ⟨b, 0, none⟩)] 33)).heap.size = w.heap.size + 3 := by simp
  have q0 := HQ.out.kept K0 (by simp)
  have M0 := HM.out.kept K0 (by simp)
  have hF := HQ.out.lt
  obtain ⟨B, hB⟩ : ∃ B, B = w.heap.size := ⟨_, rfl⟩
  rw [← hB] at m0 r0 x0 z0 hF ⊢
  have HB := Lib.hid hB
  clear hB
  generalize (((w.alloc (.cells #[.pointer (some ⟨m, 0, none⟩)] 48)).alloc (.cells #[.bool false] 4)).alloc (.cells #[.pointer (some ⟨b, 0, none⟩)] 33)) = w0 at K0 m0 r0 x0 z0 q0 M0 ⊢
  obtain ⟨am, cm, hc0, hc1, hmo, hcell⟩ := M0.facts
  have cm0 := cell_blk m0 0
  have t1 : (((l.length : Nat) : Int) == (l.length : Int)) = true := by simp
  have t2 : decide (size < l.length) = false := by simp; omega
  have t3 : decide (8 + 4 * (most : Int) < (size : Int)) = false := by simp; omega
  have e1 : IntKind.i64.wrap (4 * (most : Int)) = 4 * (most : Int) := IntWalk.i64_in _ (by omega)
  have e2 : IntKind.i64.wrap (8 + 4 * (most : Int)) = 8 + 4 * (most : Int) := IntWalk.i64_in _ (by omega)
  go_wp2_with fail
  go_still_tail 32, (by kernel_rfl)
  still_call ((lenI b F size l _ (show QI w0.drew b F size l from q0)).mono fun e w' ⟨h1, h2⟩ => ⟨h1, h2.symm⟩)
  repeat still_step
  still_call ((roomI b F size l _ (show QI w0.drew b F size l from q0)).mono fun e w' ⟨h1, h2⟩ => ⟨h1, h2.symm⟩)
  repeat still_step
  still_call ((roomI b F size l _ (show QI w0.drew b F size l from q0)).mono fun e w' ⟨h1, h2⟩ => ⟨h1, h2.symm⟩)
  repeat still_step
  refine wpStill_nil ?_
  refine name_drew_list (w := w0) ?_
  rintro w1 K1 -

  have K2 := K0.trans K1
  have m1 := K1.blk m0 (by simp)
  have r1 := K1.blk r0 (by simp)
  have x1 := K1.blk x0 (by simp)
  have q1 := q0.kept K1 (by simp)
  have M1 := M0.kept K1 (by simp)
  have z1 := K1.size
  clear hc0 hc1 hmo hcell cm0 t1 t2 t3 e1 e2 K0 m0 r0 x0 q0 M0
  go_wp2_with fail
  obtain ⟨c, hc⟩ : ∃ c, c = w1.heap.size := ⟨_, rfl⟩
  have K3 : Keeps [] w (w1.alloc (.cells #[.int .i64 0] 3)) := K2.alloc _
  have m3 := blk_alloc m1 (.cells #[.int .i64 0] 3)
  have r3 := blk_alloc r1 (.cells #[.int .i64 0] 3)
  have x3 := blk_alloc x1 (.cells #[.int .i64 0] 3)
  have c3 : (w1.alloc (.cells #[.int .i64 0] 3)).heap[w1.heap.size]? = some (.cells #[.int .i64 0] 3 (0, 0)) := blk_new _ _
  have q3 := q1.kept ((Keeps.refl [] w1).alloc (.cells #[.int .i64 0] 3)) (by simp)
  have M3 := M1.kept ((Keeps.refl [] w1).alloc (.cells #[.int .i64 0] 3)) (by simp)
  have z3 : (w1.alloc (.cells #[.int .i64 0] 3)).heap.size = w1.heap.size + 1 := by simp
  rw [← hc] at c3 z3 ⊢
  generalize (w1.alloc (.cells #[.int .i64 0] 3)) = w3 at K3 m3 r3 x3 c3 q3 M3 z3 ⊢
  have hcB : B + 3 ≤ c := by rw [hc, ← z0]; exact z1
  clear hc K1 K2 m1 r1 x1 q1 M1 z1
  refine wp_range (gf := 27) rfl (enters_of Try.func27 (by kernel_rfl) rfl) (allI_stops 8 (by decide) _ b F size l w3 q3 (by omega) x3) (by intro k hk; simp at hk; rcases hk with rfl | hk; (· omega); (· have := hF k hk; omega)) (fun _ => rfl)
    (fun pre W => Keeps [] w W ∧ W.heap[B]? = some (.cells #[.pointer (some ⟨m, 0, none⟩)] 48 (0, 0)) ∧ W.heap[B + 1]? = some (.cells #[.bool false] 4 (0, 0)) ∧ W.heap[c]? = some (.cells #[.int .i64 (pre.length : Int)] 3 (0, 0)) ∧ MQ W m G l most ∧ pre = pairs (l.take pre.length))
    (fun c pre W => c = .ret ∧ ¬ ∃ k, k ≤ l.length ∧ pre = pairs (l.take k))
    (fun s A B' row hs hg hr => ⟨keeps_survive hg hr (by have := HB.out; omega) hs.1, cells_survive hg hr hs.2.1, cells_survive hg hr hs.2.2.1, cells_survive hg hr hs.2.2.2.1, mq_survive hg hr hs.2.2.2.2.1, hs.2.2.2.2.2⟩)
    (fun c s A B' row hs hg hr => hs)
    ⟨K3, m3, r3, by simpa using c3, M3, by simp [pairs]⟩ ?a1 ?assign ?body ?done ?stop
  case assign =>
    intro lp x W K hK
    gi_wp2
    exact hK
  case body =>
    rintro lp pre ⟨i, x⟩ W ⟨hK, hm, hr, hc, hM, hpre⟩ hlen
    have c1 : W.cell? ⟨B, 0, none⟩ = some (.pointer (some ⟨m, 0, none⟩)) := cell_blk hm 0
    have c2 : W.cell? ⟨B + 1, 0, none⟩ = some (.bool false) := cell_blk hr 0
    have f2 := free_blk hr 0
    have cc3 : W.cell? ⟨c, 0, none⟩ = some (.int .i64 (pre.length : Int)) := cell_blk hc 0
    have ff3 := free_blk hc 0
    have hcc := blk_lt hc
    obtain ⟨am, cm2, hc0, hc1, hmo, hcell⟩ := hM.facts
    have HS := Lib.hid (And.intro hK (And.intro hm (And.intro hr (And.intro hc hM))))
    have HP := Lib.hid hpre
    have HN : Hid (i ≠ pre.length ∨ l[pre.length]? ≠ some x → ¬ ∃ k, k ≤ l.length ∧ pre ++ [(i, x)] = pairs (l.take k)) := Lib.hid (no_next hlen)
    clear hK hm hr hc hM hpre K3 m3 r3 x3 c3 q3 M3
    by_cases hi : i = pre.length
    · subst hi
      have t2 : ((pre.length : Int)) < (l.length : Int) := by omega
      have t2' : decide (l.length ≤ pre.length) = false := by simp; omega
      obtain ⟨y, hy⟩ : ∃ y, l[pre.length]? = some y := ⟨l[pre.length], by simp [hlen]⟩
      obtain ⟨g, o, rfl, hgx⟩ := hcell _ y hy
      have HY := Lib.hid hy
      clear hy hcell
      have FIN : Hid (∀ W1, Keeps [] W W1 → x = y → Keeps [c] W (W1.setCell ⟨c, 0, none⟩ (.int .i64 ((pre.length : Int) + 1))) ∧ Same ((B + 1 + 1) :: F) W (W1.setCell ⟨c, 0, none⟩ (.int .i64 ((pre.length : Int) + 1))) ∧ Keeps [] w (W1.setCell ⟨c, 0, none⟩ (.int .i64 ((pre.length : Int) + 1))) ∧ (W1.setCell ⟨c, 0, none⟩ (.int .i64 ((pre.length : Int) + 1))).heap[B]? = some (.cells #[.pointer (some ⟨m, 0, none⟩)] 48 (0, 0)) ∧ (W1.setCell ⟨c, 0, none⟩ (.int .i64 ((pre.length : Int) + 1))).heap[B + 1]? = some (.cells #[.bool false] 4 (0, 0)) ∧ (W1.setCell ⟨c, 0, none⟩ (.int .i64 ((pre.length : Int) + 1))).heap[c]? = some (.cells #[.int .i64 ((pre ++ [(pre.length, x)]).length : Int)] 3 (0, 0)) ∧ MQ (W1.setCell ⟨c, 0, none⟩ (.int .i64 ((pre.length : Int) + 1))) m G l most ∧ pre ++ [(pre.length, x)] = pairs (l.take (pre ++ [(pre.length, x)]).length)) := Lib.hid (by
        intro W1 K1 hxy
        obtain ⟨hK, hm, hr, hc, hM⟩ := HS.out
        have KF : Keeps [c] W (W1.setCell ⟨c, 0, none⟩ (.int .i64 ((pre.length : Int) + 1))) := (K1.mono (by simp)).setCell c 0 _ (by simp)
        have hBs := HB.out
        have hMl := HGL.out
        have hcF : c ∉ (B + 1 + 1) :: F := by
          intro h; simp at h
          rcases h with h | h
          · omega
          · have := hF c h; omega
        have hcG : c ∉ G := fun h => by have := hMl c h; omega
        refine ⟨KF, KF.same (fun g hg => ⟨?_, fun h => by simp at h; exact hcF (h ▸ hg)⟩), (hK.trans K1).setCell c 0 _ (.inr (by omega)), KF.blk hm (by simp; omega), KF.blk hr (by simp; omega), ?_, hM.kept KF (by simpa using hcG), ?_⟩
        · simp at hg
          rcases hg with rfl | hg
          · omega
          · have := hF g hg; omega
        · simpa using blk_set_same (K1.blk hc (by simp)) 0 (.int .i64 ((pre.length : Int) + 1))
        · rw [List.length_append, List.length_singleton, pairs_take l pre.length x (by rw [HY.out, hxy]), ← HP.out])
      by_cases hxy : x = y
      · have t3 : (x == y) = true := by simpa using hxy
        have t4 : (x != y) = false := by simp [hxy]
        have HXY := Lib.hid hxy
        clear hxy
        gi_wp2_with fail
        refine wpIn_region_quiet_round (by kernel_rfl) (by kernel_rfl) (by kernel_rfl) ?_
        repeat (gi_big_quiet_step (fail))
        refine wpQuietIn_nil ?_
        rintro _ ⟨nq, rfl⟩
        obtain ⟨W1, hW1, K1⟩ : ∃ W1, W1 = W.drewN nq ∧ Keeps [] W W1 := ⟨_, rfl, (Keeps.refl _ _).drewN _⟩
        rw [← hW1]; clear hW1
        have c1 := cell_blk (K1.blk HS.out.2.2.2.1 (by simp)) 0
        have f1 := free_blk (K1.blk HS.out.2.2.2.1 (by simp)) 0
        gi_wp2
        obtain ⟨KF, hsm, h1, h2, h3, h4, h5, h6⟩ := FIN.out W1 K1 HXY.out
        exact ⟨(others_keeps KF (by simp; exact ⟨_, _, _, _, HS.out.2.2.2.1⟩)).from _, hsm, h1, h2, h3, h4, h5, h6⟩
      · have t4 : (x != y) = true := by simp [hxy]
        gi_wp2_with fail
        refine wpIn_region_quiet_round (by kernel_rfl) (by kernel_rfl) (by kernel_rfl) ?_
        repeat (gi_big_quiet_step (fail))
        refine wpQuietIn_nil ?_
        rintro _ ⟨nq, rfl⟩
        obtain ⟨W1, hW1, K1⟩ : ∃ W1, W1 = W.drewN nq ∧ Keeps [] W W1 := ⟨_, rfl, (Keeps.refl _ _).drewN _⟩
        rw [← hW1]; clear hW1
        have c1 := cell_blk (K1.blk HS.out.2.2.1 (by simp)) 0
        have f1 := free_blk (K1.blk HS.out.2.2.1 (by simp)) 0
        gi_wp2
        exact ⟨(others_keeps (F := [B + 1]) ((K1.mono (by simp)).setCell (B + 1) 0 _ (by simp)) (by simp; exact ⟨_, _, _, _, HS.out.2.2.1⟩)).from _, rfl, HN.out (.inr (by rw [HY.out]; simpa using Ne.symm hxy))⟩
    · have t2 : ((i : Int) != (pre.length : Int)) = true := by simp; omega
      gi_wp2_with fail
      refine wpIn_region_quiet_round (by kernel_rfl) (by kernel_rfl) (by kernel_rfl) ?_
      repeat (gi_big_quiet_step (fail))
      refine wpQuietIn_nil ?_
      rintro _ ⟨nq, rfl⟩
      obtain ⟨W1, hW1, K1⟩ : ∃ W1, W1 = W.drewN nq ∧ Keeps [] W W1 := ⟨_, rfl, (Keeps.refl _ _).drewN _⟩
      rw [← hW1]; clear hW1
      have c1 := cell_blk (K1.blk HS.out.2.2.1 (by simp)) 0
      have f1 := free_blk (K1.blk HS.out.2.2.1 (by simp)) 0
      gi_wp2
      exact ⟨(others_keeps (F := [B + 1]) ((K1.mono (by simp)).setCell (B + 1) 0 _ (by simp)) (by simp; exact ⟨_, _, _, _, HS.out.2.2.1⟩)).from _, rfl, HN.out (.inl hi)⟩
  case stop =>
    rintro D c' pre W hD hsp ⟨rfl, hno⟩ hDb
    exact absurd hsp hno
  case done =>
    rintro D ys W hD rfl ⟨hK, hm, hr, hc, hM, -⟩ hDb
    rw [length_pairs] at hc
    have cm := cell_blk hm 0
    have cr := cell_blk hr 0
    have fr := free_blk hr 0
    have cc := cell_blk hc 0
    have HK := Lib.hid hK
    have HM' := Lib.hid hm
    have HR := Lib.hid hr
    have HC := Lib.hid hc
    have HMQ := Lib.hid hM
    have HD := Lib.hid hDb
    have HQW : Hid (QI W b F size l) := Lib.hid (HQ.out.kept hK (by simp))
    clear hK hm hr hc hM hDb cm cr fr cc m3 r3 x3 c3 q3 M3 K3
    go_wp2_with fail
    go_loopg [9] (l.length + 4) (fun gh iv wr => ∃ k : Nat, l.length + 4 - k ≤ gh ∧ iv = .int .i64 ((k : Int) - 2) ∧ k ≤ l.length + 4 ∧ Keeps [] W wr)
    case atStart => exact ⟨0, by omega, rfl, by omega, Keeps.refl _ _⟩
    case round =>
      obtain ⟨k, hgk, rfl, hkl, hKr⟩ := hrel
      have cm := cell_blk (hKr.blk HM'.out (by simp)) 0
      have cc := cell_blk (hKr.blk HC.out (by simp)) 0
      obtain ⟨am, cm2, hc0, hc1, hmo, hcell⟩ := (HMQ.out.kept hKr (by simp)).facts
      have HKr := Lib.hid hKr
      clear hKr
      by_cases hlt : k < l.length + 4
      · have t1 : decide ((k : Int) - 2 < (l.length : Int) + 2) = true := by simp; omega
        go_wp2_with fail
        have hqr : QI wr b F size l := HQW.out.kept HKr.out (by simp)
        by_cases hin : 2 ≤ k ∧ k < l.length + 2
        · obtain ⟨j, rfl⟩ : ∃ j, k = j + 2 := ⟨k - 2, by omega⟩
          have ej : (((j + 2 : Nat) : Int) - 2) = (j : Int) := by omega
          rw [ej]
          obtain ⟨x, hx⟩ : ∃ x, l[j]? = some x := ⟨l[j]'(by omega), by simp⟩
          obtain ⟨g, o, rfl, hgx⟩ := hcell j x hx
          refine (atI_in b F size l j x _ hqr hsz' hx).mono ?_
          rintro e w' ⟨rfl, rfl⟩
          have t2 : decide (j < l.length) = true := by simp; omega
          have t3 : (x == x) = true := by simp
          go_wp2
          go_roundg (l.length + 4 - (j + 2 + 1))
          case rel => exact ⟨j + 2 + 1, Nat.le_refl _, by go_num, by omega, HKr.out.drew⟩
          case measure => omega
        · refine (atI_out b F size l _ _ hqr (by omega)).mono ?_
          rintro e w' ⟨rfl, rfl⟩
          rcases (show (k : Int) - 2 < 0 ∨ ¬ ((k : Int) - 2 < 0) ∧ (l.length : Int) ≤ (k : Int) - 2 by omega) with t2 | ⟨t2, t3⟩
          all_goals
            go_wp2
            go_roundg (l.length + 4 - (k + 1))
            case rel => exact ⟨k + 1, Nat.le_refl _, by go_num, by omega, HKr.out⟩
            case measure => omega
      · have t1 : decide ((k : Int) - 2 < (l.length : Int) + 2) = false := by simp; omega
        go_wp2_with fail
        clear cm cc hc0 hc1 hmo hcell
        refine (findI b F size l _ (HQW.out.kept HKr.out (by simp)) hsz').mono ?_
        rintro e w5 ⟨rfl, K5⟩
        obtain ⟨fx, fok, hf⟩ : ∃ fx fok, found l = (fx, fok) := ⟨_, _, rfl⟩
        rw [hf]
        have HF5 := Lib.hid hf
        have HK5 := Lib.hid (HKr.out.andThen K5 (by simp))
        clear hf K5
        go_wp2_with fail
        go_loopg [15] (l.length) (fun gh iv wr => ∃ k : Nat, l.length - k ≤ gh ∧ iv = .int .i64 k ∧ k ≤ l.length ∧ Keeps [] w5 wr ∧ ∀ y ∈ l.take k, isEven y = false)
        case atStart => exact ⟨0, by omega, rfl, by omega, Keeps.refl _ _, by simp⟩
        case round =>
          obtain ⟨k, hgk, rfl, hkl, hKr, hev⟩ := hrel
          have HKr := Lib.hid (HK5.out.trans hKr)
          have cm := cell_blk (HKr.out.blk HM'.out (by simp)) 0
          have cc := cell_blk (HKr.out.blk HC.out (by simp)) 0
          have cr := cell_blk (HKr.out.blk HR.out (by simp)) 0
          have fr := free_blk (HKr.out.blk HR.out (by simp)) 0
          obtain ⟨am, cm2, hc0, hc1, hmo, hcell⟩ := (HMQ.out.kept HKr.out (by simp)).facts
          have HE := Lib.hid hev
          have HKW := Lib.hid hKr
          clear hKr hev
          by_cases hlt : k < l.length
          · obtain ⟨x, hx⟩ : ∃ x, l[k]? = some x := ⟨l[k], by simp [hlt]⟩
            obtain ⟨g, o, rfl, hgx⟩ := hcell _ x hx
            have t2 : decide (k < l.length) = true := by simp; omega
            have HX := Lib.hid hx
            clear hx hcell
            cases he : isEven x
            · have t3 : (x.tmod 2 == 0) = false := he
              have HE2 : Hid (∀ y ∈ l.take (k + 1), isEven y = false) := Lib.hid (by
                intro y hy
                rw [List.take_add_one, HX.out] at hy
                simp at hy
                rcases hy with hy | rfl
                · exact HE.out y hy
                · exact he)
              clear he
              go_wp2
              go_roundg (l.length - (k + 1))
              case rel => exact ⟨k + 1, Nat.le_refl _, by go_num, by omega, HKW.out, HE2.out⟩
              case measure => omega
            · have t3 : (x.tmod 2 == 0) = true := he
              have hfd := find_at HX.out HE.out he
              rw [HF5.out] at hfd
              obtain ⟨rfl, rfl⟩ : fx = x ∧ fok = true := by simpa using hfd
              clear he hfd
              have t4 : (fx == fx) = true := by simp
              go_wp2_with fail
              go_still_tail 21, (by kernel_rfl)
              refine name_drew_list (w := wr) ?_
              rintro w6 K6 -
              have r6 := K6.blk (HKr.out.blk HR.out (by simp)) (by simp)
              have d6 := K6.blk (HKr.out.blk HD.out (by simp)) (by simp)
              have cr6 := cell_blk r6 0
              have fr6 := free_blk r6 0
              have HE6 := Lib.hid (And.intro r6 d6)
              have HK6 := Lib.hid ((HK.out.trans HKr.out).trans K6)
              clear r6 d6 cm cc cr fr hc0 hc1
              go_wp2
              have hB6 := HB.out
              refine ⟨by simp, .inl ⟨_, _, rfl, run_takeDeferred (blk_set_other HE6.out.2 _ _ (by simp; omega)), ?_⟩⟩
              have hcell' : _ = some (Value.bool true) := cell_blk (blk_put_other (blk_set_same HE6.out.1 0 (.bool true)) (.deferred none) (show B + 1 ≠ D by omega)) 0
              refine ⟨.bool true, ?_, rfl, ?_⟩
              · simp [results, Try.results23, go_sem, hcell']
              · exact keeps_put (HK6.out.setCell _ 0 _ (.inr (by omega))) _ (by omega)
          · have t2 : decide (k < l.length) = false := by simp; omega
            have hfd := find_none_l (l := l) (by intro y hy; exact HE.out y (by rw [List.take_of_length_le (by omega)]; exact hy))
            rw [HF5.out] at hfd
            obtain ⟨rfl, rfl⟩ : fx = 0 ∧ fok = false := by simpa using hfd
            clear hfd
            go_wp2_with fail
            go_still_tail 15, (by kernel_rfl)
            refine name_drew_list (w := wr) ?_
            rintro w6 K6 -
            have r6 := K6.blk (HKr.out.blk HR.out (by simp)) (by simp)
            have d6 := K6.blk (HKr.out.blk HD.out (by simp)) (by simp)
            have cr6 := cell_blk r6 0
            have fr6 := free_blk r6 0
            have HE6 := Lib.hid (And.intro r6 d6)
            have HK6 := Lib.hid ((HK.out.trans HKr.out).trans K6)
            clear r6 d6 cm cc cr fr hc0 hc1
            go_wp2
            have hB6 := HB.out
            refine ⟨by simp, .inl ⟨_, _, rfl, run_takeDeferred (blk_set_other HE6.out.2 _ _ (by simp; omega)), ?_⟩⟩
            have hcell' : _ = some (Value.bool true) := cell_blk (blk_put_other (blk_set_same HE6.out.1 0 (.bool true)) (.deferred none) (show B + 1 ≠ D by omega)) 0
            refine ⟨.bool true, ?_, rfl, ?_⟩
            · simp [results, Try.results23, go_sem, hcell']
            · exact keeps_put (HK6.out.setCell _ 0 _ (.inr (by omega))) _ (by omega)
end Go.Proofs.Ytoecfimmgiajpaa
