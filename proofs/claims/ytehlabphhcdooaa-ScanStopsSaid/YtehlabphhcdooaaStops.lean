/- The walk of ScanStops. -/
import Derived.Test.YtehlabphhcdooaaS4x1
import Derived.Test.YtehlabphhcdooaaS5x1
import Derived.Test.YtehlabphhcdooaaLex2
import Derived.Test.YtehlabphhcdooaaNeq
namespace Go.Proofs.Ytehlabphhcdooaa.Sc
open Go.RowKit Go.Shelf Go.Proofs.YtehlabphhcdooaaW.PrintWords Go.Proofs.YtehlabphhcdooaaW.PrintLast Go.Proofs.YtehlabphhcdooaaW.PrintMore
attribute [local go_sem] Oper.semAt_some

/-- What lies in memory while the tokens are gone over. -/
structure StS (w : World) (R L : Nat) (s : ByteArray) (v : Value) (K B : Nat) (ts : List Tk) (W : World) : Prop where
  keeps : Keeps [] w W
  br : W.heap[R]? = some (.cells #[.bool false] 4 (0, 0))
  bl : W.heap[L]? = some (.cells #[v] 23 (0, 0))
  bx : W.heap[L + 1]? = some (.cells #[.string s] 9 (0, 0))
  bk : W.heap[L + 2]? = some (.cells #[.int .i64 (K : Int)] 3 (0, 0))
  row : RowT W B v ts
namespace StS
variable {w W W' : World} {R L : Nat} {s : ByteArray} {v : Value} {K B : Nat} {ts : List Tk}
theorem survive (h : StS w R L s v K B ts W) {row : Option Nat} (hg : W.grownBy W' row) {C : Nat} (hr : ∀ r, row = some r → C ≤ r ∧ ∃ o : Obj, W.heap[r]? = some o ∧ o.isCells = false) (hC : w.heap.size ≤ C) : StS w R L s v K B ts W' :=
  ⟨keeps_survive hg hr hC h.keeps, cells_survive hg hr h.br, cells_survive hg hr h.bl, cells_survive hg hr h.bx, cells_survive hg hr h.bk, rowT_survive hg hr h.row⟩
theorem alloc (h : StS w R L s v K B ts W) (o : Obj) : StS w R L s v K B ts (W.alloc o) :=
  ⟨h.keeps.alloc o, blk_alloc h.br o, blk_alloc h.bl o, blk_alloc h.bx o, blk_alloc h.bk o, rowT_alloc h.row o⟩
theorem set (h : StS w R L s v K B ts W) (g : Nat) (u : Value) (hg : w.heap.size ≤ g) (hR : R < L) (hL : L + 2 < g) (hv : ∀ k, v.ownBlock = some k → k < L) : StS w R L s v K B ts (W.setCell ⟨g, 0, none⟩ u) := by
  refine ⟨h.keeps.setCell g 0 u (.inr hg), blk_set_other h.br _ _ (by simp; omega), blk_set_other h.bl _ _ (by simp; omega), blk_set_other h.bx _ _ (by simp; omega), blk_set_other h.bk _ _ (by simp; omega), ?_⟩
  refine World.ownsRow.kept h.row (grownBy_setCell' W g u) ?_
  cases hv' : v.ownBlock with
  | none => exact .inl rfl
  | some k => right; intro e; cases e; have := hv _ hv'; omega
theorem keep (h : StS w R L s v K B ts W) (k : Keeps [] W W') : StS w R L s v K B ts W' :=
  ⟨h.keeps.trans k, k.blk h.br (by simp), k.blk h.bl (by simp), k.blk h.bx (by simp), k.blk h.bk (by simp), World.ownsRow.kept h.row (keeps_grown k) (by cases v.ownBlock <;> simp)⟩
end StS

set_option maxHeartbeats 4000000 in
theorem stops_walk (s0 s : ByteArray) (many : Int) (K : Nat) (hK : K < 30) (hs : s.size ≤ 1000000)
    (ha : S5.cadencylaw03_awake.f = some true) (hsh : S5.cadencylaw03_short.f s0 = some s) (hrest : S4.cadencylaw03_rest.f many 30 = some (K : Int)) (w : World) :
    Calls Try.prog 5 #[.string s0, .int .i64 many] w fun e w' => e = .returned (.bool true) ∧ Below w.heap.size w w' := by
  have hfn := eachNotNil
  refine (callsIn_wide (n := 9)).1 ?_
  refine callsIn_of_wp_marks Try.func5 rfl trivial ?_ rfl
  simp only [Try.ntmps5, List.size_toArray, List.length_cons, List.length_nil, Nat.reduceAdd, Nat.reduceSub, Array.replicate_succ, Array.replicate_zero, List.push_toArray, List.append_toArray, List.nil_append, List.cons_append]
  refine wpIn_wide.2 ?_
  go_wp2_with fail
  have k0 : Keeps [] w (w.alloc (.cells #[.bool false] 4)) := (Keeps.refl _ _).alloc _
  have r0 : (w.alloc (.cells #[.bool false] 4)).heap[w.heap.size]? = some (.cells #[.bool false] 4 (0, 0)) := blk_new _ _
  generalize (w.alloc (.cells #[.bool false] 4)) = w0 at k0 r0 ⊢
  refine (S5.cadencylaw03_awake.calls true _ ha).mono ?_
  rintro e w1 ⟨rfl, K1⟩
  have K1' := Keeps.of_below (F := []) K1
  have k1 := k0.trans K1'
  have r1 := K1'.blk r0 (by simp)
  clear k0 K1 K1' r0
  go_wp2_with fail
  refine (S5.cadencylaw03_short.calls s0 s _ hsh).mono ?_
  rintro e w' ⟨rfl, ⟨nd, rfl⟩⟩
  have K2 : Keeps [] w1 (w1.drewN nd) := (Keeps.refl _ _).drewN _
  have k2 := k1.trans K2
  have r2 := K2.blk r1 (by simp)
  clear k1 K2 r1
  generalize w1.drewN nd = w2 at k2 r2 ⊢
  go_wp2_with fail
  refine (law_each s hs _).mono ?_
  rintro e w3 ⟨v, rfl, hrow, K3⟩
  obtain ⟨Av, cv, hev⟩ := Kd.R_slice (S5.row_tk hrow)
  rw [List.length_map] at hev
  subst hev
  have k3 := k2.trans K3
  have r3 := K3.blk r2 (by simp)
  have hb3 := blk_lt r2
  obtain ⟨R, hR⟩ : ∃ R, R = w.heap.size := ⟨_, rfl⟩
  obtain ⟨B, hB⟩ : ∃ B, B = w2.heap.size := ⟨_, rfl⟩
  rw [← hR] at r3 hb3 ⊢
  rw [← hB] at hrow hb3
  clear hB K3 k2 r2
  go_wp2_with fail
  refine (each_any _ _).mono ?_
  rintro e w' ⟨rfl, rfl⟩
  have hv3 : ∀ k, (Value.slice Av (eachL s.data.toList).1.length cv).ownBlock = some k → B ≤ k ∧ k < w3.heap.size := World.ownsRow.lt hrow
  generalize hv : Value.slice Av (eachL s.data.toList).1.length cv = v at hrow hv3 ⊢
  have k4 : Keeps [] w ((w3.alloc (.cells #[v] 23)).alloc (.cells #[.string s] 9)) := (k3.alloc _).alloc _
  have r4 : ((w3.alloc (.cells #[v] 23)).alloc (.cells #[.string s] 9)).heap[R]? = some (.cells #[.bool false] 4 (0, 0)) := blk_alloc (blk_alloc r3 _) _
  have l4 : ((w3.alloc (.cells #[v] 23)).alloc (.cells #[.string s] 9)).heap[w3.heap.size]? = some (.cells #[v] 23 (0, 0)) := blk_alloc (blk_new _ _) _
  have x4 : ((w3.alloc (.cells #[v] 23)).alloc (.cells #[.string s] 9)).heap[w3.heap.size + 1]? = some (.cells #[.string s] 9 (0, 0)) := by simpa using blk_new (w3.alloc _) _
  have z4 : ((w3.alloc (.cells #[v] 23)).alloc (.cells #[.string s] 9)).heap.size = w3.heap.size + 2 := by simp
  have row4 : RowT ((w3.alloc (.cells #[v] 23)).alloc (.cells #[.string s] 9)) B v (eachL s.data.toList).1 := rowT_alloc (rowT_alloc hrow _) _
  have hBw := blk_lt r3
  have hxs : (w3.alloc (.cells #[v] 23)).heap.size = w3.heap.size + 1 := by simp
  rw [hxs]
  obtain ⟨L, hL⟩ : ∃ L, L = w3.heap.size := ⟨_, rfl⟩
  rw [← hL] at l4 x4 z4 hv3 hBw ⊢
  generalize ((w3.alloc (.cells #[v] 23)).alloc (.cells #[.string s] 9)) = w4 at k4 r4 l4 x4 z4 row4 ⊢
  clear hL hxs hrow r3 k3
  go_wp2_with fail
  refine (S4.cadencylaw03_rest.calls many 30 K _ hrest).mono ?_
  rintro e w' ⟨rfl, ⟨nd2, rfl⟩⟩
  have K5 : Keeps [] w4 (w4.drewN nd2) := (Keeps.refl _ _).drewN _
  have k5 := k4.trans K5
  have r5 := K5.blk r4 (by simp)
  have l5 := K5.blk l4 (by simp)
  have x5 := K5.blk x4 (by simp)
  have z5 : (w4.drewN nd2).heap.size = L + 2 := by have := K5.size; simpa using z4
  have row5 := World.ownsRow.kept row4 (keeps_grown K5) (by cases v.ownBlock <;> simp)
  change RowT (w4.drewN nd2) B v _ at row5
  generalize w4.drewN nd2 = w5 at k5 r5 l5 x5 z5 row5 ⊢
  clear k4 K5 r4 l4 x4 z4 row4
  go_wp2_with fail
  rw [← hR]
  have s6 : StS w R L s v K B (eachL s.data.toList).1 ((w5.alloc (.cells #[.int .i64 (K : Int)] 3)).alloc (.cells #[.int .i64 0] 3)) :=
    ⟨(k5.alloc _).alloc _, blk_alloc (blk_alloc r5 _) _, blk_alloc (blk_alloc l5 _) _, blk_alloc (blk_alloc x5 _) _, blk_alloc (by rw [← z5]; exact blk_new _ _) _, rowT_alloc (rowT_alloc row5 _) _⟩
  have g6 : ((w5.alloc (.cells #[.int .i64 (K : Int)] 3)).alloc (.cells #[.int .i64 0] 3)).heap[L + 2 + 1]? = some (.cells #[.int .i64 (0 : Nat)] 3 (0, 0)) := by rw [← z5]; simpa using blk_new (w5.alloc _) _
  have z6 : ((w5.alloc (.cells #[.int .i64 (K : Int)] 3)).alloc (.cells #[.int .i64 0] 3)).heap.size = L + 2 + 1 + 1 := by simp [z5]
  have hRw : w.heap.size ≤ R := by omega
  have hvL : ∀ k, v.ownBlock = some k → k < L := fun k hk => (hv3 k hk).2
  generalize ((w5.alloc (.cells #[.int .i64 (K : Int)] 3)).alloc (.cells #[.int .i64 0] 3)) = w6 at s6 g6 z6 ⊢
  clear k5 r5 l5 x5 z5 row5 hb3 hv3 hR
  have hlen := eachL_len s.data.toList
  have hl2 : s.data.toList.length = s.size := by simp
  refine wp_rangeT (gf := 21) (Bx := L + 1) rfl (enters_of Try.func21 (by kernel_rfl) rfl) (each_stops 8 (by decide) (L + 1) s (by omega) w6 s6.bx) (by omega) (fun _ => rfl)
    (fun pre W => StS w R L s v K B (eachL s.data.toList).1 W ∧ W.heap[L + 2 + 1]? = some (.cells #[.int .i64 (pre.length : Nat)] 3 (0, 0)) ∧ pre.length ≤ K ∧ pre = (eachL s.data.toList).1.take pre.length)
    (fun c pre W => (c = .exit 0 ∧ ∃ g : Nat, pre.length = g + 1 ∧ g = K ∧ StS w R L s v K B (eachL s.data.toList).1 W ∧ W.heap[L + 2 + 1]? = some (.cells #[.int .i64 (g : Nat)] 3 (0, 0))) ∨ (c = .ret ∧ ¬ ∃ j, j ≤ (eachL s.data.toList).1.length ∧ pre = (eachL s.data.toList).1.take j))
    (fun s' A A' row hs hg hr => ⟨hs.1.survive hg hr (by omega), cells_survive hg hr hs.2.1, hs.2.2⟩)
    (fun c s' A A' row hs hg hr => hs.imp (fun h => ⟨h.1, h.2.imp fun g h => ⟨h.1, h.2.1, h.2.2.1.survive hg hr (by omega), cells_survive hg hr h.2.2.2⟩⟩) id)
    ⟨s6, g6, by simp, by simp⟩
    (fun x a' W => ∃ X, BoxT w6.heap.size x W X ∧ a' = { tmps := #[.string s, .int .i64 many, undef, undef, .pointer (some ⟨R, 0, none⟩), .bool true, .pointer (some ⟨L, 0, none⟩), .bool true, .func (.func 21) #[] #[.pointer (some ⟨L + 1, 0, none⟩)], .pointer (some ⟨L + 2, 0, none⟩), .pointer (some ⟨L + 2 + 1, 0, none⟩), .pointer (some ⟨X, 0, none⟩), undef, .bool true, .string s0, .string s, .tuple #[v, .bool true], .string s, .tuple #[v, .bool true], v, .bool true, .bool true, .bool false, .string s, .func (.func 21) #[] #[.pointer (some ⟨L + 1, 0, none⟩)], .int .i64 many, .int .i64 K, .func (.func 21) #[] #[.pointer (some ⟨L + 1, 0, none⟩)], tkV x, undef, undef, undef, undef, undef, undef, undef, undef, undef, undef, undef, undef, undef, undef, undef, undef, undef, undef, undef, undef, undef, undef, undef, undef, undef, undef, undef, undef, undef, undef, undef, undef, undef, undef, undef, undef], defers := [] })
    (fun x a' s' A B' row hs hg hr => hs.imp fun X h => ⟨⟨h.1.1, cells_survive hg hr h.1.2⟩, h.2⟩)
    ?assign ?body ?done ?stop
  case assign =>
    rintro lp pre ⟨kd, at_, tx, nu⟩ W K' ⟨hs, hg, hp1, hp2⟩ hKK
    simp only [tkV]
    have hKK' := Lib.hid hKK
    have HS := Lib.hid (And.intro hs (And.intro hg (And.intro hp1 hp2)))
    have hBW : L + 1 < W.heap.size := blk_lt hs.bx
    have hGW := blk_lt hg
    have hzw := hs.keeps.size
    clear hKK hs hg hp1 hp2 s6 g6
    gi_wp2
    refine hKK'.out _ _ ((KeepsOthers.alloc _ _).from _) (kpT_alloc _ _ _ hBW) ⟨HS.out.1.alloc _, blk_alloc HS.out.2.1 _, HS.out.2.2⟩ ⟨W.heap.size, ⟨by omega, blk_new _ _⟩, rfl⟩
  case body =>
    rintro lp pre x a' W ⟨hs, hg, hp1, hp2⟩ ⟨X, ⟨hX1, hX2⟩, rfl⟩ hln
    have hret : (eachL s.data.toList).1[pre.length]? ≠ some x → ¬ ∃ j, j ≤ (eachL s.data.toList).1.length ∧ pre ++ [x] = (eachL s.data.toList).1.take j := by
      rintro h ⟨j, hj1, hj⟩
      have h1 : (pre ++ [x])[pre.length]? = some x := by simp
      rw [hj, List.getElem?_take] at h1
      split at h1
      · exact h h1
      · cases h1
    have HRT := Lib.hid hret
    clear hret
    obtain ⟨t, ht⟩ : ∃ t, (eachL s.data.toList).1[pre.length]? = some t := ⟨_, List.getElem?_eq_getElem hln⟩
    have hR := S5.row_tk hs.row
    rw [← hv] at hR
    obtain ⟨ad, had, y0, y1, y2, y3⟩ := S5.at_T28 (Kd.R_reads' hR).2.2 (pre.length : Int) (by omega) (by simpa using hln)
    subst had
    have hrd : S5.rd_T28 ((eachL s.data.toList).1.map S5.tkS) (pre.length : Int) = S5.tkS t := by
      unfold S5.rd_T28
      rw [List.getD_eq_getElem?_getD, Int.toNat_natCast, List.getElem?_map, ht]
      rfl
    rw [hrd] at y0 y1 y2 y3
    simp only [S5.tkS, Int.toNat_natCast] at y0 y1 y2 y3
    have c1 : W.cell? ⟨L + 2 + 1, 0, none⟩ = some (.int .i64 (pre.length : Nat)) := cell_blk hg 0
    have f1 := free_blk hg 0
    have c2 : W.cell? ⟨L + 2, 0, none⟩ = some (.int .i64 (K : Nat)) := cell_blk hs.bk 0
    have c4 : W.cell? ⟨L, 0, none⟩ = some (.slice (some ad) (eachL s.data.toList).1.length cv) := by rw [hv]; exact cell_blk hs.bl 0
    have c5 : W.cell? ⟨R, 0, none⟩ = some (.bool false) := cell_blk hs.br 0
    have f5 := free_blk hs.br 0
    obtain ⟨kd, at_, tx, nu⟩ := x
    obtain ⟨kd2, at2, tx2, nu2⟩ := t
    simp only [cellsT] at hX2
    have d0 : W.cell? ⟨X, 0, none⟩ = some (.int .i64 kd) := cell_blk hX2 0
    have d1 : W.cell? ⟨X, 1, none⟩ = some (.int .i64 at_) := cell_blk hX2 1
    have d2 : W.cell? ⟨X, 2, none⟩ = some (.string ⟨tx.toArray⟩) := cell_blk hX2 2
    have d3 : W.cell? ⟨X, 3, none⟩ = some (.int .i64 nu) := cell_blk hX2 3
    have HS := Lib.hid (And.intro hs (And.intro hg (And.intro hp1 (And.intro hp2 ht))))
    have HX := Lib.hid hX2
    have hln2 : (pre.length : Int) < ((eachL s.data.toList).1.length : Int) := by omega
    have HVE := Lib.hid hv
    clear hs hg hp1 hp2 ht hX2 hR hrd s6 g6 hv
    by_cases hK : pre.length = K
    · have t1 : ((pre.length : Int) == (K : Int)) = true := by rw [hK]; simp
      gi_wp2
      exact ⟨(KeepsOthers.refl _).from _, .inl ⟨rfl, pre.length, by simp, hK, HS.out.1, HS.out.2.1⟩⟩
    · have t1 : ((pre.length : Int) == (K : Int)) = false := by rw [beq_eq_false_iff_ne]; omega
      have hg28 := guard28
      have t5 : decide (((eachL s.data.toList).1.length : Int) ≤ (pre.length : Int)) = false := by simp; omega
      have t6 : decide ((eachL s.data.toList).1.length ≤ pre.length) = false := by simp; omega
      have hpK : pre.length + 1 ≤ K := by have := HS.out.2.2.1; omega
      have hw1 : IntKind.i64.wrap ((pre.length : Int) + 1) = (pre.length : Int) + 1 := IntWalk.i64_in _ (by omega)
      have HPK := Lib.hid hpK
      clear hpK
      by_cases heq : (⟨kd, at_, tx, nu⟩ : Tk) = ⟨kd2, at2, tx2, nu2⟩
      · simp only [Tk.mk.injEq] at heq
        obtain ⟨rfl, rfl, rfl, rfl⟩ := heq
        have hne := fun W => neq_same kd at_ nu tx W
        gi_wp2_with fail
        refine wpIn_region_quiet_round (by kernel_rfl) (by kernel_rfl) (by kernel_rfl) ?_
        repeat (gi_big_quiet_step (fail))
        refine wpQuietIn_nil ?_
        rintro _ ⟨nq, rfl⟩
        obtain ⟨W1, hW1, K1⟩ : ∃ W1, W1 = W.drewN nq ∧ Keeps [] W W1 := ⟨_, rfl, (Keeps.refl _ _).drewN _⟩
        rw [← hW1]; clear hW1
        have G1 := K1.blk HS.out.2.1 (by simp)
        have z1 : W1.cell? ⟨L + 2 + 1, 0, none⟩ = some (.int .i64 (pre.length : Nat)) := cell_blk G1 0
        have z2 := free_blk G1 0
        have HG1 := Lib.hid G1
        clear G1 c1 f1 c2 c4 c5 f5 y0 y1 y2 y3 d0 d1 d2 d3
        gi_wp2
        have hx1 := K1.blk HS.out.1.bx (by simp)
        have hkp : KpT (L + 1) W W1 := ⟨K1.size, K1.block _ (blk_lt HS.out.1.bx) (by simp), fun k cs h _ => K1.blk h (by simp)⟩
        have hk9 : KeepsFrom w6.heap.size W (W1.setCell ⟨L + 2 + 1, 0, none⟩ (.int .i64 ((pre.length : Int) + 1))) := (others_keeps (F := [L + 2 + 1]) ((K1.mono (by simp)).setCell (L + 2 + 1) 0 _ (by simp)) (by simp; exact ⟨_, _, _, _, HS.out.2.1⟩)).from _
        refine ⟨hk9, kpT_t hkp (kpT_set _ _ HG1.out (by omega)), ((HS.out.1).keep K1).set (L + 2 + 1) _ (by omega) hBw (by omega) hvL, ?_, ?_, ?_⟩
        · simpa using blk_set_same HG1.out 0 (.int .i64 ((pre.length : Int) + 1))
        · simpa using HPK.out
        · rw [List.length_append, List.length_singleton, List.take_add_one, HS.out.2.2.2.2, ← HS.out.2.2.2.1]; rfl
      · have hne := fun W => neq_diff kd at_ nu kd2 at2 nu2 tx tx2 heq W
        have HEQ := Lib.hid heq
        clear heq
        gi_wp2_with fail
        refine wpIn_region_quiet_round (by kernel_rfl) (by kernel_rfl) (by kernel_rfl) ?_
        repeat (gi_big_quiet_step (fail))
        refine wpQuietIn_nil ?_
        rintro _ ⟨nq, rfl⟩
        obtain ⟨W1, hW1, K1⟩ : ∃ W1, W1 = W.drewN nq ∧ Keeps [] W W1 := ⟨_, rfl, (Keeps.refl _ _).drewN _⟩
        rw [← hW1]; clear hW1
        have R1 := K1.blk HS.out.1.br (by simp)
        have z1 : W1.cell? ⟨R, 0, none⟩ = some (.bool false) := cell_blk R1 0
        have z2 := free_blk R1 0
        have HR1 := Lib.hid R1
        clear R1 c1 f1 c2 c4 c5 f5 y0 y1 y2 y3 d0 d1 d2 d3
        gi_wp2
        have hk9 : KeepsFrom w6.heap.size W (W1.setCell ⟨R, 0, none⟩ (.bool false)) := (others_keeps (F := [R]) ((K1.mono (by simp)).setCell R 0 _ (by simp)) (by simp; exact ⟨_, _, _, _, HS.out.1.br⟩)).from _
        exact ⟨hk9, .inr ⟨rfl, HRT.out (by rw [HS.out.2.2.2.2]; intro e; exact HEQ.out (Option.some.inj e).symm)⟩⟩
  focus
    rintro D ys W hD rfl ⟨hs, hg, hp1, -⟩ hDb
    obtain ⟨G, hGe⟩ : ∃ G, G = (eachL s.data.toList).1.length := ⟨_, rfl⟩
    rw [← hGe] at hg
    have hG : G = min K (eachL s.data.toList).1.length := by omega
    clear hGe hp1
    go_wp2_with fail
  rotate_left 1
  focus
    rintro D c pre W hD ⟨j, hj, hpj⟩ h hDb
    rcases h with ⟨rfl, G, hz1, hz2, hs, hg⟩ | ⟨-, h⟩
    rotate_left 1
    · exact absurd ⟨j, hj, hpj⟩ h
    have hG : G = min K (eachL s.data.toList).1.length := by
      have := congrArg List.length hpj
      rw [List.length_take] at this
      omega
    clear hpj hz1 hz2
    go_wp2_with fail
  all_goals
    have s1 := hs.alloc (.cells #[.int .i64 0] 3)
    have g1 := blk_alloc hg (.cells #[.int .i64 0] 3)
    have d1 := blk_alloc hDb (.cells #[.int .i64 0] 3)
    have a1 : (W.alloc (.cells #[.int .i64 0] 3)).heap[W.heap.size]? = some (.cells #[.int .i64 (0 : Nat)] 3 (0, 0)) := blk_new _ _
    have z1 : (W.alloc (.cells #[.int .i64 0] 3)).heap.size = W.heap.size + 1 := by simp
    have hcW := blk_lt hg
    have hDW := blk_lt hDb
    have hwW := hs.keeps.size
    obtain ⟨A, hA⟩ : ∃ A, A = W.heap.size := ⟨_, rfl⟩
    rw [← hA] at a1 z1 hcW hDW hwW ⊢
    generalize (W.alloc (.cells #[.int .i64 0] 3)) = w7 at s1 g1 d1 a1 z1 ⊢
    clear hs hg hDb hA s6 g6
    have HV := Lib.hid hv
    clear hv
    refine wp_rangeT (gf := 21) (Bx := L + 1) rfl (enters_of Try.func21 (by kernel_rfl) rfl) (each_stops 8 (by decide) (L + 1) s (by omega) w7 s1.bx) (by omega) (fun _ => rfl)
      (fun pre V => StS w R L s v K B (eachL s.data.toList).1 V ∧ V.heap[L + 2 + 1]? = some (.cells #[.int .i64 (G : Nat)] 3 (0, 0)) ∧ V.heap[D]? = some (.deferred (some [])) ∧ V.heap[A]? = some (.cells #[.int .i64 (pre.length : Nat)] 3 (0, 0)))
      (fun _ _ _ => False)
      (fun s' V V' row hs hg hr => ⟨hs.1.survive hg hr (by omega), cells_survive hg hr hs.2.1, blk_grown hg hs.2.2.1 (fun e => by have := (hr _ e).1; omega), cells_survive hg hr hs.2.2.2⟩)
      (fun _ _ _ _ _ hs _ _ => hs) ⟨s1, g1, d1, a1⟩
      (fun x a' V => a' = { tmps := #[.string s, .int .i64 many, undef, undef, .pointer (some ⟨R, 0, none⟩), .bool true, .pointer (some ⟨L, 0, none⟩), .bool true, .func (.func 21) #[] #[.pointer (some ⟨L + 1, 0, none⟩)], .pointer (some ⟨L + 2, 0, none⟩), .pointer (some ⟨L + 2 + 1, 0, none⟩), undef, .pointer (some ⟨A, 0, none⟩), .bool true, .string s0, .string s, .tuple #[v, .bool true], .string s, .tuple #[v, .bool true], v, .bool true, .bool true, .bool false, .string s, .func (.func 21) #[] #[.pointer (some ⟨L + 1, 0, none⟩)], .int .i64 many, .int .i64 K, .func (.func 21) #[] #[.pointer (some ⟨L + 1, 0, none⟩)], undef, undef, undef, undef, undef, undef, undef, undef, undef, undef, undef, undef, undef, undef, undef, undef, undef, undef, .func (.func 21) #[] #[.pointer (some ⟨L + 1, 0, none⟩)], tkV x, undef, undef, undef, undef, undef, undef, undef, undef, undef, undef, undef, undef, undef, undef, undef, undef, undef], defers := [] })
      (fun x a' s' A B' row hs hg hr => hs)
      ?_ ?_ ?_ ?_
    · rintro lp pre x V K' hI hKK
      have HI := Lib.hid hI
      have HKK := Lib.hid hKK
      clear hI hKK s1 g1 d1 a1
      gi_wp2
      exact HKK.out _ _ ((KeepsOthers.refl _).from _) ⟨Nat.le_refl _, rfl, fun _ _ h _ => h⟩ HI.out rfl
    · rintro lp pre x a' V ⟨hs, hg, hd, ha⟩ rfl hln
      have e1 : V.cell? ⟨A, 0, none⟩ = some (.int .i64 (pre.length : Nat)) := cell_blk ha 0
      have e2 := free_blk ha 0
      have hw1 : IntKind.i64.wrap ((pre.length : Int) + 1) = (pre.length : Int) + 1 := IntWalk.i64_in _ (by omega)
      have HS := Lib.hid (And.intro hs (And.intro hg (And.intro hd ha)))
      clear hs hg hd ha s1 g1 d1 a1
      gi_wp2
      obtain ⟨hs, hg, hd, ha⟩ := HS.out
      refine ⟨(KeepsOthers.setCell _ _ _).from _, kpT_set _ _ ha (by omega), hs.set A _ (by omega) hBw (by omega) hvL, blk_set_other hg _ _ (by simp; omega), blk_set_other hd _ _ (by simp; omega), ?_⟩
      simpa using blk_set_same ha 0 (.int .i64 ((pre.length : Int) + 1))
    · rintro D' ys V hD' rfl ⟨hs, hg, hd, ha⟩ hd'
      have e1 : V.cell? ⟨L + 2 + 1, 0, none⟩ = some (.int .i64 (G : Nat)) := cell_blk hg 0
      have e2 : V.cell? ⟨L + 2, 0, none⟩ = some (.int .i64 (K : Nat)) := cell_blk hs.bk 0
      have e3 : V.cell? ⟨L, 0, none⟩ = some (.slice Av (eachL s.data.toList).1.length cv) := by rw [HV.out]; exact cell_blk hs.bl 0
      have e5 : V.cell? ⟨A, 0, none⟩ = some (.int .i64 ((eachL s.data.toList).1.length : Nat)) := cell_blk ha 0
      have e6 : V.cell? ⟨R, 0, none⟩ = some (.bool false) := cell_blk hs.br 0
      have e7 := free_blk hs.br 0
      have HS := Lib.hid (And.intro hs (And.intro hd hd'))
      have t6 : ((G : Int) == if ((eachL s.data.toList).1.length : Int) < (K : Int) then ((eachL s.data.toList).1.length : Int) else (K : Int)) = true := by
        rw [beq_iff_eq]; split <;> omega
      clear hs hg hd ha hd' s1 g1 d1 a1
      go_wp2
      all_goals
        obtain ⟨hs, hd, hd'⟩ := HS.out
        have hDD : D ≠ D' := by omega
        refine ⟨by simp, .inl ⟨_, _, rfl, run_takeDeferred (blk_set_other hd' ⟨R, 0, none⟩ _ (by simp; omega)), ?_⟩⟩
        refine ⟨by simp, .inl ⟨_, _, rfl, run_takeDeferred (blk_put_other (blk_set_other hd ⟨R, 0, none⟩ _ (by simp; omega)) _ hDD), ?_⟩⟩
        have hcell : _ = some (Value.bool true) := cell_blk (blk_put_other (blk_put_other (blk_set_same hs.br 0 (.bool true)) (.deferred none) (show R ≠ D' by omega)) (.deferred none) (show R ≠ D by omega)) 0
        refine ⟨.bool true, ?_, rfl, ?_⟩
        · simp [results, Try.results5, go_sem, hcell]
        · exact (keeps_put (keeps_put (hs.keeps.setCell _ 0 _ (.inr hRw)) _ (by omega)) _ (by omega)).below (by simp) (Nat.le_refl _)
    · intro D c pre V _ _ h
      exact h.elim

theorem law_awake : S5.cadencylaw03_awake.f = some true := by decide +kernel
theorem law_short (s : ByteArray) : ∃ t : ByteArray, t.size ≤ 100 ∧ S5.cadencylaw03_short.f s = some t := by
  by_cases h : s.size > 100
  · refine ⟨s.extract 0 100, by simp; omega, ?_⟩
    unfold S5.cadencylaw03_short.f
    rw [if_pos (by omega), if_pos (by decide), if_pos (by omega)]
  · refine ⟨s, by omega, ?_⟩
    unfold S5.cadencylaw03_short.f
    rw [if_neg (by omega)]
theorem law_rest (a : Int) : ∃ r : Nat, r < 30 ∧ S4.cadencylaw03_rest.f a 30 = some (r : Int) := by
  unfold S4.cadencylaw03_rest.f
  rw [if_neg (by decide)]
  have h1 := Int.tmod_lt_of_pos a (show (0 : Int) < 30 by decide)
  have h2 : -30 < Int.tmod a 30 := by
    have := Int.lt_tmod_of_pos a (show (0 : Int) < 30 by decide)
    omega
  refine ⟨(Int.tmod (Int.tmod a 30 + 30) 30).toNat, ?_, ?_⟩
  · have h3 := Int.tmod_lt_of_pos (Int.tmod a 30 + 30) (show (0 : Int) < 30 by decide)
    omega
  · have h4 := Int.tmod_nonneg 30 (show 0 ≤ Int.tmod a 30 + 30 by omega)
    have hw : wrap64 (Int.tmod a 30 + 30) = Int.tmod a 30 + 30 := by unfold wrap64; omega
    rw [hw]
    congr 1
    omega
theorem stops_any (s : ByteArray) (many : Int) (w : World) :
    Calls Try.prog 5 #[.string s, .int .i64 many] w fun e w' => e = .returned (.bool true) ∧ Below w.heap.size w w' := by
  obtain ⟨t, ht, hsh⟩ := law_short s
  obtain ⟨r, hr, hrest⟩ := law_rest many
  exact stops_walk s t many r hr (by omega) law_awake hsh hrest w
end Go.Proofs.Ytehlabphhcdooaa.Sc
