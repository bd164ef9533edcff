/- The walk of FifoStops. -/
import Derived.Test.YtoecfimmgiajpaaNil
import Derived.Test.YtoecfimmgiajpaaRoom
import Derived.Test.YtoecfimmgiajpaaOrder
import Derived.StillTactics
namespace Go.Proofs.Ytoecfimmgiajpaa
open Go.RowKit Go.Shelf
attribute [local go_sem] Oper.semAt_some

/-- What lies in memory while All is gone over. -/
structure St (w : World) (B b c9 c12 X : Nat) (F : List Nat) (size : Nat) (sl : Value) (N K : Nat) (zs : List Int) (W : World) : Prop where
  keeps : Keeps [] w W
  bl : W.heap[B]? = some (.cells #[sl] 39 (0, 0))
  br : W.heap[B + 1]? = some (.cells #[.bool false] 4 (0, 0))
  bn : W.heap[c9]? = some (.cells #[.int .i64 (N : Int)] 3 (0, 0))
  bk : W.heap[c12]? = some (.cells #[.int .i64 (K : Int)] 3 (0, 0))
  bx : W.heap[X]? = some (.cells #[.pointer (some ⟨b, 0, none⟩)] 33 (0, 0))
  q : QI W b F size zs
namespace St
variable {w W W' : World} {B b c9 c12 X : Nat} {F : List Nat} {size : Nat} {sl : Value} {N K : Nat} {zs : List Int}
theorem survive (h : St w B b c9 c12 X F size sl N K zs W) {row : Option Nat} (hg : W.grownBy W' row) {C : Nat} (hr : ∀ r, row = some r → C ≤ r ∧ ∃ o : Obj, W.heap[r]? = some o ∧ o.isCells = false) (hC : w.heap.size ≤ C) : St w B b c9 c12 X F size sl N K zs W' :=
  ⟨keeps_survive hg hr hC h.keeps, cells_survive hg hr h.bl, cells_survive hg hr h.br, cells_survive hg hr h.bn, cells_survive hg hr h.bk, cells_survive hg hr h.bx, isq_survive hg hr h.q⟩
theorem alloc (h : St w B b c9 c12 X F size sl N K zs W) (o : Obj) : St w B b c9 c12 X F size sl N K zs (W.alloc o) :=
  ⟨h.keeps.alloc o, blk_alloc h.bl o, blk_alloc h.br o, blk_alloc h.bn o, blk_alloc h.bk o, blk_alloc h.bx o, h.q.kept (G := []) ((Keeps.refl _ _).alloc _) (by simp)⟩
theorem set (h : St w B b c9 c12 X F size sl N K zs W) (g off : Nat) (v : Value) (hg : w.heap.size ≤ g) (h1 : g ≠ B) (h2 : g ≠ B + 1) (h3 : g ≠ c9) (h4 : g ≠ c12) (h5 : g ≠ X) (h6 : g ∉ F) : St w B b c9 c12 X F size sl N K zs (W.setCell ⟨g, off, none⟩ v) :=
  ⟨h.keeps.setCell g off v (.inr hg), blk_set_other h.bl _ _ h1, blk_set_other h.br _ _ h2, blk_set_other h.bn _ _ h3, blk_set_other h.bk _ _ h4, blk_set_other h.bx _ _ h5, h.q.kept (G := [g]) ((Keeps.refl _ _).setCell g off v (by simp)) (by simpa using h6)⟩
theorem drew (h : St w B b c9 c12 X F size sl N K zs W) : St w B b c9 c12 X F size sl N K zs W.drew := ⟨h.keeps.drew, h.bl, h.br, h.bn, h.bk, h.bx, h.q⟩
end St

set_option maxHeartbeats 2000000 in
theorem stops_walk (v : Value) (xs : List Int) (many pops : Int) (w : World) (hm : xs.length ≤ 9223372036854775807) (hv : IntsAt w v xs) :
    Calls Try.prog 5 #[v, .int .i64 many, .int .i64 pops] w fun e w' => e = .returned (.bool true) ∧ Keeps [] w w' := by
  obtain ⟨a, cap, rfl, hlc, hcell⟩ := hv
  have HC := Lib.hid hcell
  clear hcell
  have hfn := allNotNil
  have hlen' : (xs.length : Int) ≤ 9223372036854775807 := by omega
  have HM := Lib.hid hm
  clear hm
  refine (callsIn_wide (n := 9)).1 ?_
  refine callsIn_of_wp_marks Try.func5 rfl trivial ?_ rfl
  simp only [Try.ntmps5, List.size_toArray, List.length_cons, List.length_nil, Nat.reduceAdd, Nat.reduceSub, Array.replicate_succ, Array.replicate_zero, List.push_toArray, List.append_toArray, List.nil_append, List.cons_append]
  refine wpIn_wide.2 ?_
  go_wp2_with fail
  have k0 : Keeps [] w ((w.alloc (.cells #[.slice a xs.length cap] 39)).alloc (.cells #[.bool false] 4)) := ((Keeps.refl _ _).alloc _).alloc _
  have l0 : ((w.alloc (.cells #[.slice a xs.length cap] 39)).alloc (.cells #[.bool false] 4)).heap[w.heap.size]? = some (.cells #[.slice a xs.length cap] 39 (0, 0)) := blk_alloc (blk_new _ _) _
  have r0 : ((w.alloc (.cells #[.slice a xs.length cap] 39)).alloc (.cells #[.bool false] 4)).heap[w.heap.size + 1]? = some (.cells #[.bool false] 4 (0, 0)) := by simpa using blk_new (w.alloc _) _
  generalize ((w.alloc (.cells #[.slice a xs.length cap] 39)).alloc (.cells #[.bool false] 4)) = w0 at k0 l0 r0 ⊢
  refine (awake_true _).mono ?_
  rintro e w1 ⟨rfl, K1⟩
  have k1 := k0.trans K1
  have l1 := K1.blk l0 (by simp)
  have r1 := K1.blk r0 (by simp)
  obtain ⟨B, hB⟩ : ∃ B, B = w.heap.size := ⟨_, rfl⟩
  rw [← hB] at l1 r1 ⊢
  have cl1 := cell_blk l1 0
  have fl1 := free_blk l1 0
  have L1 := Lib.hid l1
  have R1 := Lib.hid r1
  have HB := Lib.hid hB
  clear l0 r0 k0 K1 l1 r1 hB
  -- whichever way: the box holds a slice of at most 30
  have hmid : ∃ ys : List Int, ys.length ≤ 30 ∧ (ys = xs ∧ xs.length ≤ 30 ∨ ys = xs.take 30 ∧ 30 < xs.length) := by
    by_cases h : 30 < xs.length
    · exact ⟨xs.take 30, by simp; omega, .inr ⟨rfl, h⟩⟩
    · exact ⟨xs, by omega, .inl ⟨rfl, by omega⟩⟩
  obtain ⟨ys, hys, hc⟩ := hmid
  have hcw : ∀ w2 : World, Keeps [] w w2 → (ys = xs ∨ ys = xs.take 30) → IntsAt w2 (.slice a ys.length cap) ys := by
    intro w2 hk hy
    have hlen : ys.length ≤ cap := by
      rcases hy with rfl | rfl
      · exact hlc
      · simp; omega
    refine ⟨a, cap, rfl, hlen, fun hne => ?_⟩
    obtain ⟨b, o, h1, h2⟩ := HC.out (by rintro rfl; rcases hy with rfl | rfl <;> simp at hne)
    refine ⟨b, o, h1, fun i x hx => cell_kept hk (h2 i x ?_) (by simp)⟩
    rcases hy with rfl | rfl
    · exact hx
    · rw [List.getElem?_take] at hx
      split at hx
      · exact hx
      · cases hx
  have HCW := Lib.hid hcw
  clear hcw
  rcases hc with ⟨hye, h30⟩ | ⟨hye, h30⟩
  focus
    subst hye
    have h30' : (ys.length : Int) ≤ 30 := by omega
    go_wp2_with fail
    have hi2 := HCW.out w1 k1 (by simp)
    have HI : Hid (∀ W, Keeps [] w W → IntsAt W (.slice a ys.length cap) ys) := fun W hW => HCW.out W hW (by simp)
    have k2 := k1
    have l2 := L1.out
    have r2 := R1.out
    generalize w1 = w2 at hi2 k2 l2 r2 ⊢
  rotate_left 1
  focus
    have h30' : (30 : Int) < (xs.length : Int) := by omega
    have hcap : (30 : Int) ≤ (cap : Int) := by omega
    have HYE := Lib.hid hye
    clear hye
    go_wp2_with fail
    have e30 : 30 = ys.length := by rw [HYE.out]; simp; omega
    have k2 : Keeps [] w (w1.setCell ⟨B, 0, none⟩ (.slice a 30 cap)) := k1.setCell B 0 _ (.inr (by rw [HB.out]; exact Nat.le_refl _))
    have l2 := blk_set_same L1.out 0 (.slice a 30 cap)
    have r2 := blk_set_other R1.out ⟨B, 0, none⟩ (.slice a 30 cap) (by simp)
    have hi2 := HCW.out _ k2 (.inr HYE.out)
    have HI : Hid (∀ W, Keeps [] w W → IntsAt W (.slice a ys.length cap) ys) := fun W hW => HCW.out W hW (.inr HYE.out)
    generalize (w1.setCell ⟨B, 0, none⟩ (.slice a 30 cap)) = w2 at hi2 k2 l2 r2 ⊢
    rw [show Value.slice a 30 cap = Value.slice a ys.length cap from by rw [← e30]] at l2 ⊢
    change w2.heap[B]? = some (.cells #[.slice a ys.length cap] 39 (0, 0)) at l2
    clear e30 hcap
  all_goals
    clear h30' h30 hlen' HM HC hlc cl1 fl1 L1 R1 HCW k1
    refine (newI _ ys _ (by omega) hi2).mono ?_
    rintro e w3 ⟨F, size, rfl, q3, K3, hF, hsz⟩
    have k3 := k2.trans K3
    have l3 := K3.blk l2 (by simp)
    have r3 := K3.blk r2 (by simp)
    obtain ⟨b, hb⟩ : ∃ b, b = w2.heap.size := ⟨_, rfl⟩
    rw [← hb] at q3 hF ⊢
    have hbB : B + 1 < b := by rw [hb]; exact blk_lt r2
    have cl3 := cell_blk l3 0
    have HQ := Lib.hid q3
    have L3 := Lib.hid l3
    have R3 := Lib.hid r3
    have HF := Lib.hid hF
    clear l2 r2 K3 hb q3 l3 r3 hF hi2
    obtain ⟨N, hN⟩ : ∃ N : Nat, pops % ((ys.length : Int) + 1) = (N : Int) := Int.eq_ofNat_of_zero_le (Int.emod_nonneg _ (by omega))
    have hNl : N ≤ ys.length := by have := Int.emod_lt_of_pos pops (show (0 : Int) < (ys.length : Int) + 1 by omega); omega
    have HN := Lib.hid hN
    clear hN
    have hys' : (ys.length : Int) ≤ 30 := by omega
    go_wp2_with fail
    refine (rest_any pops _ _ (by omega) (by omega)).mono ?_
    rintro e w' ⟨rfl, rfl⟩
    rw [HN.out]
    go_wp2_with fail
    have k4 : Keeps [] w (w3.alloc (.cells #[.int .i64 (N : Int)] 3)) := k3.alloc _
    have l4 := blk_alloc L3.out (.cells #[.int .i64 (N : Int)] 3)
    have r4 := blk_alloc R3.out (.cells #[.int .i64 (N : Int)] 3)
    have n4 := blk_new w3 (.cells #[.int .i64 (N : Int)] 3)
    have q4 : QI (w3.alloc (.cells #[.int .i64 (N : Int)] 3)) b F size ys := HQ.out.kept (G := []) ((Keeps.refl _ _).alloc _) (by simp)
    obtain ⟨c9, hc9⟩ : ∃ c9, c9 = w3.heap.size := ⟨_, rfl⟩
    have hFc : ∀ k ∈ F, k < c9 := by rw [hc9]; exact HQ.out.lt
    have hBc : B + 1 < c9 := by rw [hc9]; exact blk_lt R3.out
    rw [← hc9] at n4 ⊢
    generalize (w3.alloc (.cells #[.int .i64 (N : Int)] 3)) = w4 at k4 l4 r4 n4 q4 ⊢
    have HFc := Lib.hid hFc
    clear HQ L3 R3 k3 cl3 hc9 hFc
    go_loopw [10] (fun i wr => ∃ k : Nat, k ≤ N ∧ i = .int .i64 k ∧ QI wr b F size (ys.drop k) ∧ Keeps [] w wr ∧ wr.heap[B]? = some (.cells #[.slice a ys.length cap] 39 (0, 0)) ∧ wr.heap[B + 1]? = some (.cells #[.bool false] 4 (0, 0)) ∧ wr.heap[c9]? = some (.cells #[.int .i64 (N : Int)] 3 (0, 0))) (fun i _ => N - (intOf i).toNat)
    case atStart => exact ⟨0, by omega, rfl, by simpa using q4, k4, l4, r4, n4⟩
    case round =>
      obtain ⟨k, hk, rfl, hq, hK, hl, hr, hn⟩ := hrel
      have HQ := Lib.hid hq
      have HL := Lib.hid hl
      have HR := Lib.hid hr
      have HNN := Lib.hid hn
      have cn := cell_blk hn 0
      clear hq hl hr hn k4 l4 r4 n4 q4
      by_cases hlt : k < N
      · have hlt' : (k : Int) < (N : Int) := by omega
        go_wp2_with fail
        have hq5 := HQ.out
        rw [List.drop_eq_getElem_cons (by omega)] at hq5
        refine (popI_some b F size _ _ _ hq5 (by omega)).mono ?_
        rintro e w5 ⟨rfl, q5, K5⟩
        have hBF : B ∉ F := fun h => by have := HF.out _ h; omega
        have hBF1 : B + 1 ∉ F := fun h => by have := HF.out _ h; omega
        have hcF : c9 ∉ F := fun h => by have := HFc.out _ h; omega
        have hl5 := K5.blk HL.out hBF
        have hr5 := K5.blk HR.out hBF1
        have hn5 := K5.blk HNN.out hcF
        have hK5 : Keeps [] w w5 := hK.andThen K5 (fun g hg => .inr (by have := HF.out g hg; have := HB.out; omega))
        have HS := Lib.hid (And.intro q5 (And.intro hK5 (And.intro hl5 (And.intro hr5 hn5))))
        clear hq5 q5 hl5 hr5 hn5 hBF hBF1 hcF
        go_wp2
        go_roundw
        case rel => exact ⟨k + 1, by omega, by go_num, HS.out⟩
        case measure => simp [intOf]; omega
      · obtain rfl : k = N := by omega
        clear hlt
        go_wp2_with fail
        refine (allI _ _).mono ?_
        rintro e w5 ⟨rfl, rfl⟩
        have hK5 : Keeps [] w (wr.alloc (.cells #[.pointer (some ⟨b, 0, none⟩)] 33)) := hK.alloc _
        have hl5 := blk_alloc HL.out (.cells #[.pointer (some ⟨b, 0, none⟩)] 33)
        have hr5 := blk_alloc HR.out (.cells #[.pointer (some ⟨b, 0, none⟩)] 33)
        have hn5 := blk_alloc HNN.out (.cells #[.pointer (some ⟨b, 0, none⟩)] 33)
        have hx5 := blk_new wr (.cells #[.pointer (some ⟨b, 0, none⟩)] 33)
        have hq5 : QI (wr.alloc (.cells #[.pointer (some ⟨b, 0, none⟩)] 33)) b F size (ys.drop k) := HQ.out.kept (G := []) ((Keeps.refl _ _).alloc _) (by simp)
        obtain ⟨X, hX⟩ : ∃ X, X = wr.heap.size := ⟨_, rfl⟩
        have hcX : c9 < X := by rw [hX]; exact blk_lt HNN.out
        have hFX : ∀ k ∈ F, k < X := by rw [hX]; exact HQ.out.lt
        rw [← hX] at hx5 ⊢
        generalize (wr.alloc (.cells #[.pointer (some ⟨b, 0, none⟩)] 33)) = w5 at hK5 hl5 hr5 hn5 hx5 hq5 ⊢
        clear hX HQ HL HR HNN cn hK
        obtain ⟨K, hKk⟩ : ∃ K : Nat, many % 32 = (K : Int) := Int.eq_ofNat_of_zero_le (Int.emod_nonneg _ (by decide))
        have HKk := Lib.hid hKk
        have HFX := Lib.hid hFX
        have HS := Lib.hid (And.intro hK5 (And.intro hl5 (And.intro hr5 (And.intro hn5 (And.intro hx5 hq5)))))
        clear hKk hK5 hl5 hr5 hn5 hx5 hq5 hFX
        go_wp2_with fail
        refine (rest_any many _ _ (by decide) (by decide)).mono ?_
        rintro e w' ⟨rfl, rfl⟩
        rw [HKk.out]
        go_wp2_with fail
        obtain ⟨hK5, hl5, hr5, hn5, hx5, hq5⟩ := HS.out
        have hX5 := blk_lt hx5
        have s0 : St w B b c9 w5.heap.size X F size (.slice a ys.length cap) k K (ys.drop k) ((w5.alloc (.cells #[.int .i64 (K : Int)] 3)).alloc (.cells #[.int .i64 0] 3)) :=
          ⟨(hK5.alloc _).alloc _, blk_alloc (blk_alloc hl5 _) _, blk_alloc (blk_alloc hr5 _) _, blk_alloc (blk_alloc hn5 _) _, blk_alloc (blk_new _ _) _, blk_alloc (blk_alloc hx5 _) _, hq5.kept (G := []) (((Keeps.refl _ _).alloc _).alloc _) (by simp)⟩
        have g0 : ((w5.alloc (.cells #[.int .i64 (K : Int)] 3)).alloc (.cells #[.int .i64 0] 3)).heap[w5.heap.size + 1]? = some (.cells #[.int .i64 (0 : Nat)] 3 (0, 0)) := by simpa using blk_new (w5.alloc _) _
        have hK1 := hK5.size
        have z0 : ((w5.alloc (.cells #[.int .i64 (K : Int)] 3)).alloc (.cells #[.int .i64 0] 3)).heap.size = w5.heap.size + 1 + 1 := by simp
        obtain ⟨c, hc⟩ : ∃ c, c = w5.heap.size := ⟨_, rfl⟩
        rw [← hc] at s0 g0 z0 hX5 hK1 ⊢
        generalize ((w5.alloc (.cells #[.int .i64 (K : Int)] 3)).alloc (.cells #[.int .i64 0] 3)) = w6 at s0 g0 z0 ⊢
        clear hc hK5 hl5 hr5 hn5 hx5 hq5 HS
        have hFc : ∀ g ∈ F, g < X := HFX.out
        refine wp_range (gf := 27) rfl (enters_of Try.func27 (by kernel_rfl) rfl) (allI_stops 8 (by decide) X b F size (ys.drop k) _ s0.q (by omega) s0.bx) ?_ (fun _ => rfl)
          (fun pre W => St w B b c9 c X F size (.slice a ys.length cap) k K (ys.drop k) W ∧ W.heap[c + 1]? = some (.cells #[.int .i64 (pre.length : Nat)] 3 (0, 0)) ∧ pre.length ≤ K ∧ pre = pairs ((ys.drop k).take pre.length))
          (fun x pre W => (x = .exit 2 ∧ ∃ g : Nat, pre.length = g + 1 ∧ g = K ∧ St w B b c9 c X F size (.slice a ys.length cap) k K (ys.drop k) W ∧ W.heap[c + 1]? = some (.cells #[.int .i64 (g : Nat)] 3 (0, 0))) ∨ (x = .ret ∧ ¬ ∃ j, pre = pairs ((ys.drop k).take j)))
          ?_ ?_ ⟨s0, g0, by simp, by simp [pairs]⟩ ?_ ?_ ?_ ?_ ?_
        · intro g hg; simp at hg; rcases hg with rfl | hg; (· omega); (· have := hFc g hg; omega)
        · exact fun s A A' row hs hg hr => ⟨hs.1.survive hg hr (by omega), cells_survive hg hr hs.2.1, hs.2.2⟩
        · rintro x s A A' row (⟨h1, g, h2, h3, h4, h5⟩ | h) hg hr
          · exact .inl ⟨h1, g, h2, h3, h4.survive hg hr (by omega), cells_survive hg hr h5⟩
          · exact .inr h
        rotate_left 1
        · intro l x W K hK
          gi_wp2
          exact hK
        · rintro l pre ⟨i, x⟩ W ⟨hs, hg, hpK, hpre⟩ hlen
          have c1 := cell_blk hg 0
          have f1 := free_blk hg 0
          have c2 := cell_blk hs.bk 0
          have c3 := cell_blk hs.bn 0
          have c4 := cell_blk hs.bl 0
          have c5 := cell_blk hs.br 0
          have f5 := free_blk hs.br 0
          have hia := HI.out W hs.keeps
          have HS := Lib.hid hs
          have HG := Lib.hid hg
          have HP := Lib.hid hpre
          have hl2 : pre.length + k < ys.length := by simp at hlen; omega
          clear hs hg hpre s0 g0
          have hot : ∀ W', Same (X :: F) W W' → True := fun _ _ => trivial
          clear hot
          have hret : (i ≠ pre.length ∨ (ys.drop k)[pre.length]? ≠ some x) → ¬ ∃ j, pre ++ [(i, x)] = pairs ((ys.drop k).take j) := by
            rintro h ⟨j, hj⟩
            have hjl : j = pre.length + 1 ∨ (ys.drop k).length < j := by
              have := congrArg List.length hj
              simp [length_pairs] at this
              simp
              omega
            have h1 : (pre ++ [(i, x)])[pre.length]? = some (i, x) := by simp
            rw [hj] at h1
            simp only [pairs, List.getElem?_mapIdx, Option.map_eq_some_iff] at h1
            obtain ⟨y, hy, he⟩ := h1
            simp only [Prod.mk.injEq] at he
            rw [List.getElem?_take] at hy
            split at hy
            · rcases h with h | h
              · exact h he.1.symm
              · rw [hy, he.2] at h; exact h rfl
            · cases hy
          have HRT := Lib.hid hret
          clear hret
          by_cases hK : pre.length = K
          · have t1 : ((pre.length : Int) == (K : Int)) = true := by rw [hK]; simp
            gi_wp2
            exact ⟨(KeepsOthers.refl _).from _, .inl ⟨rfl, pre.length, by simp, hK, HS.out, HG.out⟩⟩
          · have t1 : ((pre.length : Int) == (K : Int)) = false := by rw [beq_eq_false_iff_ne]; omega
            by_cases hi : i = pre.length
            · subst hi
              have t2 : ((pre.length : Int) + (k : Int)) < (ys.length : Int) := by omega
              obtain ⟨a', cap', he, hlc, hc⟩ := hia
              cases he
              obtain ⟨b0, o0, ha, hcc⟩ := hc (by intro e; rw [e] at hl2; simp at hl2)
              clear hc
              subst ha
              obtain ⟨y, hy⟩ : ∃ y, ys[pre.length + k]? = some y := ⟨ys[pre.length + k], by simp [hl2]⟩
              have hcy := hcc _ y hy
              have HY := Lib.hid hy
              clear hcc hy
              by_cases hxy : x = y
              · have t3 : (x == y) = true := by simpa using hxy
                have t4 : (x != y) = false := by simp [hxy]
                gi_wp2
                have hsm : Same (X :: F) W (W.setCell ⟨c + 1, 0, none⟩ (.int .i64 ((pre.length : Int) + 1))) := (Keeps.setCell (F := [c + 1]) (Keeps.refl _ _) (c + 1) 0 _ (by simp)).same (by
                  intro g hg; simp at hg
                  rcases hg with rfl | hg
                  · exact ⟨blk_lt HS.out.bx, by simp; omega⟩
                  · have := HFX.out g hg; have := blk_lt HS.out.bx; exact ⟨by omega, by simp; omega⟩)
                refine ⟨(KeepsOthers.setCell _ _ _).from _, hsm, HS.out.set (c + 1) 0 _ (by omega) (by omega) (by omega) (by omega) (by omega) (by omega) (fun h => by have := HFX.out _ h; omega), ?_, ?_, ?_⟩
                · simpa using blk_set_same HG.out 0 (.int .i64 ((pre.length : Int) + 1))
                · simp; omega
                · rw [List.length_append, List.length_singleton, pairs_take (ys.drop k) pre.length x (by rw [List.getElem?_drop, Nat.add_comm, HY.out, hxy]), ← HP.out]
              · have t4 : (x != y) = true := by simp [hxy]
                gi_wp2
                exact ⟨(KeepsOthers.setCell _ _ _).from _, .inr ⟨rfl, HRT.out (.inr (by rw [List.getElem?_drop, Nat.add_comm, HY.out]; simpa using Ne.symm hxy))⟩⟩
            · have t2 : ((i : Int) != (pre.length : Int)) = true := by simp; omega
              gi_wp2
              exact ⟨(KeepsOthers.setCell _ _ _).from _, .inr ⟨rfl, HRT.out (.inl hi)⟩⟩
        focus
          rintro D zs W hDw hzs ⟨hs, hg, hpK, hpre⟩ hDb
          have hG : zs.length = min K (ys.length - k) := by
            have := congrArg List.length hzs
            simp [length_pairs] at this
            omega
          clear hzs hpre
          generalize zs.length = G at hg hpK hG
          go_wp2_with fail
        rotate_left 1
        focus
          rintro D x zs W hDw ⟨j, hj, hzj⟩ h hDb
          rcases h with ⟨rfl, G, hz1, hz2, hs, hg⟩ | ⟨-, h⟩
          rotate_left 1
          · exact absurd ⟨j, hzj⟩ h
          have hG : G = min K (ys.length - k) := by
            have := congrArg List.length hzj
            simp [length_pairs] at this hj
            omega
          have hpK : G ≤ K := by omega
          clear hzj hz1 hz2
          go_wp2_with fail
        all_goals
          have s1 := hs.alloc (.cells #[.int .i64 0] 3)
          have g1 := blk_alloc hg (.cells #[.int .i64 0] 3)
          have d1 := blk_alloc hDb (.cells #[.int .i64 0] 3)
          have a1 : (W.alloc (.cells #[.int .i64 0] 3)).heap[W.heap.size]? = some (.cells #[.int .i64 (0 : Nat)] 3 (0, 0)) := blk_new _ _
          have z1 : (W.alloc (.cells #[.int .i64 0] 3)).heap.size = W.heap.size + 1 := by simp
          have hcW := blk_lt hg
          have hDW := blk_lt hDb
          have hXW := blk_lt hs.bx
          have hwW := hs.keeps.size
          obtain ⟨A, hA⟩ : ∃ A, A = W.heap.size := ⟨_, rfl⟩
          rw [← hA] at a1 z1 hcW hDW hXW hwW ⊢
          generalize (W.alloc (.cells #[.int .i64 0] 3)) = w7 at s1 g1 d1 a1 z1 ⊢
          clear hs hg hDb hA
          refine wp_range (gf := 27) rfl (enters_of Try.func27 (by kernel_rfl) rfl) (allI_stops 8 (by decide) X b F size (ys.drop k) _ s1.q (by omega) s1.bx) ?_ (fun _ => rfl)
            (fun pre V => St w B b c9 c X F size (.slice a ys.length cap) k K (ys.drop k) V ∧ V.heap[c + 1]? = some (.cells #[.int .i64 (G : Nat)] 3 (0, 0)) ∧ V.heap[D]? = some (.deferred (some [])) ∧ V.heap[A]? = some (.cells #[.int .i64 (pre.length : Nat)] 3 (0, 0)))
            (fun _ _ _ => False) ?_ (fun _ _ _ _ _ hs _ _ => hs) ⟨s1, g1, d1, a1⟩ ?_ ?_ ?_ ?_ ?_
          · intro g hg; simp at hg; rcases hg with rfl | hg; (· omega); (· have := hFc g hg; omega)
          · exact fun s V V' row hs hg hr => ⟨hs.1.survive hg hr (by omega), cells_survive hg hr hs.2.1, blk_grown hg hs.2.2.1 (fun e => by have := (hr _ e).1; omega), cells_survive hg hr hs.2.2.2⟩
          rotate_left 1
          · intro l x V K hK
            gi_wp2
            exact hK
          · rintro l pre ⟨i, x⟩ V ⟨hs, hg, hd, ha⟩ hlen
            have e1 := cell_blk ha 0
            have e2 := free_blk ha 0
            have HS := Lib.hid (And.intro hs (And.intro hg (And.intro hd ha)))
            have hl2 : pre.length < 30 := by simp at hlen; omega
            clear hs hg hd ha s1 g1 d1 a1
            gi_wp2
            obtain ⟨hs, hg, hd, ha⟩ := HS.out
            have hsm : Same (X :: F) V (V.setCell ⟨A, 0, none⟩ (.int .i64 ((pre.length : Int) + 1))) := (Keeps.setCell (F := [A]) (Keeps.refl _ _) A 0 _ (by simp)).same (by
              intro g hg; simp at hg
              rcases hg with rfl | hg
              · exact ⟨blk_lt hs.bx, by simp; omega⟩
              · have := HFX.out g hg; have := blk_lt hs.bx; exact ⟨by omega, by simp; omega⟩)
            refine ⟨(KeepsOthers.setCell _ _ _).from _, hsm, hs.set A 0 _ (by omega) (by omega) (by omega) (by omega) (by omega) (by omega) (fun h => by have := HFX.out _ h; omega), blk_set_other hg _ _ (by simp; omega), blk_set_other hd _ _ (by simp; omega), ?_⟩
            simpa using blk_set_same ha 0 (.int .i64 ((pre.length : Int) + 1))
          rotate_left 1
          · rintro D' x zs V _ _ h
            exact h.elim
          · rintro D' zs V hD' hzs ⟨hs, hg, hd, ha⟩ hd'
            have hR : zs.length = ys.length - k := by rw [hzs, length_pairs]; simp
            clear hzs
            generalize zs.length = R at ha hR
            have e1 := cell_blk hg 0
            have e2 := cell_blk hs.bk 0
            have e3 := cell_blk hs.bl 0
            have e4 := cell_blk hs.bn 0
            have e5 := cell_blk ha 0
            have HS := Lib.hid (And.intro hs (And.intro hd hd'))
            have hRi : (R : Int) = (ys.length : Int) - (k : Int) := by omega
            have hsmall : (K : Int) < 32 := by have := HKk.out; omega
            have hGi : (G : Int) = min (K : Int) ((ys.length : Int) - (k : Int)) := by omega
            have hkl : (k : Int) ≤ (ys.length : Int) := by omega
            have HRi := Lib.hid hRi
            have HGi := Lib.hid hGi
            clear hs hg hd ha hd' hRi hGi hG hR
            have e6 : IntKind.i64.wrap ((ys.length : Int) - (k : Int)) = (ys.length : Int) - (k : Int) := IntWalk.i64_in _ (by omega)
            have t6 : ((G : Int) == if (ys.length : Int) - (k : Int) < (K : Int) then (ys.length : Int) - (k : Int) else (K : Int)) = true := by
              rw [beq_iff_eq, HGi.out]; split <;> omega
            have t7 : ((R : Int) == (ys.length : Int) - (k : Int)) = true := by rw [beq_iff_eq, HRi.out]
            have t8 : (((ys.drop k).length : Int) == (R : Int)) = true := by rw [beq_iff_eq, HRi.out]; simp; omega
            go_wp2_with fail
            go_still_tail 25, (by kernel_rfl)
            still_call ((lenI b F size (ys.drop k) _ HS.out.1.drew.q).mono fun e w' ⟨h1, h2⟩ => ⟨h1, h2.symm⟩)
            repeat still_step
            refine wpStill_nil ?_
            refine name_drew_list (w := V) ?_
            rintro V2 K2 -
            have t9 : (((ys.length - k : Nat) : Int) == (R : Int)) = true := by rw [beq_iff_eq, HRi.out]; omega
            rw [t9]
            have r2 := K2.blk HS.out.1.br (by simp)
            have d2 := K2.blk HS.out.2.1 (by simp)
            have d2' := K2.blk HS.out.2.2 (by simp)
            have k9 : Keeps [] w V2 := HS.out.1.keeps.trans K2
            have x1 := cell_blk r2 0
            have x2 := free_blk r2 0
            have HE := Lib.hid (And.intro r2 (And.intro d2 (And.intro d2' k9)))
            clear r2 d2 d2' k9 t6 t7 t8 t9 e1 e2 e3 e4 e5 e6
            go_wp2
            all_goals
              obtain ⟨r2, d2, d2', k9⟩ := HE.out
              have hBk := HB.out
              have hDD : D ≠ D' := by omega
              refine ⟨by simp, .inl ⟨_, _, rfl, run_takeDeferred (blk_set_other d2' ⟨B + 1, 0, none⟩ _ (by simp; omega)), ?_⟩⟩
              refine ⟨by simp, .inl ⟨_, _, rfl, run_takeDeferred (blk_put_other (blk_set_other d2 ⟨B + 1, 0, none⟩ _ (by simp; omega)) _ hDD), ?_⟩⟩
              have hcell : _ = some (Value.bool true) := cell_blk (blk_put_other (blk_put_other (blk_set_same r2 0 (.bool true)) (.deferred none) (show B + 1 ≠ D' by omega)) (.deferred none) (show B + 1 ≠ D by omega)) 0
              refine ⟨.bool true, ?_, rfl, ?_⟩
              · simp [results, Try.results5, go_sem, hcell]
              · exact keeps_put (keeps_put (k9.setCell _ 0 _ (by simp; omega)) _ (by omega)) _ (by omega)
end Go.Proofs.Ytoecfimmgiajpaa
