/- HeapPlays' walk. -/
import Derived.Test.YtlcbcagbiiachaaPlays0
import Derived.Deep.RegionHeld3
import Derived.Deep.DeepCutAuto
import Derived.BigQuiet
import Derived.Deep.QuietTactic
import Derived.Deep.DeepCutAuto
import Derived.BigQuiet
import Derived.Deep.QuietTactic
namespace Go.Proofs.Ytlcbcagbiiachaa
open Go.RowKit Go.Shelf
attribute [local go_sem] Oper.semAt_some

/-- Acts in a slice, read. -/
def RowAct (w : World) (v : Value) (xs : List (Int × Int)) : Prop :=
  ∃ a cap, v = .slice a xs.length cap ∧ xs.length ≤ cap ∧ ∀ i x, xs[i]? = some x → ∃ b o, a = some ⟨b, o, none⟩ ∧ w.cell? ⟨b, o + i * 2, none⟩ = some (.int .i64 x.1) ∧ w.cell? ⟨b, o + i * 2 + 1, none⟩ = some (.int .i64 x.2)

set_option maxHeartbeats 4000000 in
set_option maxRecDepth 100000 in
theorem plays_walk (v0 v1 : Value) (xs : List Int) (acts : List (Int × Int)) (w : World) (hm : xs.length ≤ 9223372036854775807) (hwf : ∀ x ∈ xs, (Lit.int .i64 x).wf = true) (hv : RowAt (fun x : Int => .int .i64 x) w v0 xs)
    (hma : acts.length ≤ 9223372036854775807) (hwa : ∀ x ∈ acts, (Lit.int .i64 x.1).wf = true ∧ (Lit.int .i64 x.2).wf = true) (hva : RowAct w v1 acts) :
    Calls Try.prog 7 #[v0, v1] w fun e w' => e = .returned (.bool true) ∧ Keeps [] w w' := by
  obtain ⟨a, cap, rfl, hlc, hcell⟩ := hv
  obtain ⟨a2, cap2, rfl, hlc2, hcell2⟩ := hva
  obtain ⟨i0, hi, hz0, hz1, hz2⟩ := info_parts infoI45
  have HC := Lib.hid hcell
  have HC2 := Lib.hid hcell2
  have HWF := Lib.hid hwf
  have HWA := Lib.hid hwa
  clear hcell hwf hcell2 hwa
  go_enter Try.func7, Try.ntmps7
  go_wp2_with fail
  refine (awake_true _).mono ?_
  rintro e w1 ⟨rfl, K1⟩
  go_wp2_with fail
  have hmb := blk_new w1 (.cells #[.slice none 0 0] 59)
  have K2 : Keeps [] w (w1.alloc (.cells #[.slice none 0 0] 59)) := K1.alloc _
  obtain ⟨m, hmd⟩ : ∃ m, m = w1.heap.size := ⟨_, rfl⟩
  have hwm : w.heap.size ≤ m := by have := K1.size; omega
  have hsz : (w1.alloc (.cells #[.slice none 0 0] 59)).heap.size = m + 1 := by simp [hmd]
  rw [← hmd] at hmb ⊢
  clear hmd
  generalize w1.alloc (.cells #[.slice none 0 0] 59) = w2 at hmb K2 hsz ⊢
  have hMH : MH w2 m [] (ml (fi xs 0)) := ⟨none, 0, hmb, by simp [ml, fi], by simp, fun _ => rfl, by simp⟩
  have HM0 := Lib.hid hMH
  clear hmb hMH K1
  go_loopg [6, 8] (12) (fun gh lv iv wr => ∃ (i : Nat) (G : List Nat), 12 - i ≤ gh ∧ iv = .int .i64 i ∧ i ≤ 12 ∧ i ≤ xs.length ∧ wr.ownsRow (m + 1) 45 2 lv i (flat ei2 (fi xs i)) ∧ (i = 0 → lv = .slice none 0 0) ∧ MH wr m G (ml (fi xs i)) ∧ (∀ g ∈ G, m < g ∧ g < wr.heap.size ∧ lv.ownBlock ≠ some g) ∧ Keeps [m] w2 wr)
  case atStart => exact ⟨0, [], by omega, rfl, by omega, by omega, World.ownsRow_nil _ _ _ _, fun _ => rfl, HM0.out, by simp, Keeps.refl _ _⟩
  case round =>
    obtain ⟨i, G, hgh, rfl, hi12, hil, hown, hnil, hmh, hG, hK⟩ := hrel
    have HOWN := Lib.hid hown
    have HNIL := Lib.hid hnil
    have HMH := Lib.hid hmh
    have HG := Lib.hid hG
    have HK := Lib.hid hK
    have hwr := hK.size
    clear hown hnil hmh hG hK HM0
    by_cases hlt : i < xs.length ∧ i < 12
    · obtain ⟨h1, h2⟩ := hlt
      obtain ⟨x, hx⟩ : ∃ x, xs[i]? = some x := ⟨xs[i], by simp [h1]⟩
      obtain ⟨b0, o0, ha, hc⟩ := HC.out (by intro e; rw [e] at h1; simp at h1)
      subst ha
      have hcx := hc i x hx
      have hb0 := World.block_lt_of_cell? _ _ hcx
      have hcr : wr.cell? ⟨b0, o0 + i, none⟩ = some (.int .i64 x) := by
        rw [← hcx]
        exact World.cell?_of_block (((K2.mono (G := [m]) (by simp)).trans HK.out).block b0 hb0 (by simp at hb0 ⊢; omega))
      have HX := Lib.hid hx
      have h1' : (i : Int) < (xs.length : Int) := by omega
      have h2' : (i : Int) < 12 := by omega
      clear hc hx hcx
      go_wp2_with fail
      refine (rest_any x 6 _ (by omega) (by omega)).mono ?_
      rintro e w' ⟨rfl, rfl⟩
      have hsn : fi xs (i + 1) = fi xs i ++ [(x % 6, -1 - (i : Int))] := by
        rw [fi]
        have := HX.out
        rw [List.getElem!_eq_getElem?_getD, this]
        rfl
      have HSN := Lib.hid hsn
      clear hsn
      generalize hy : x % 6 = y at HSN ⊢
      clear hy
      have hxw : IntKind.i64.wrap (-1 - (i : Int)) = -1 - (i : Int) := IntWalk.i64_in _ (by omega)
      obtain ⟨B, hB⟩ : ∃ B, B = wr.heap.size := ⟨_, rfl⟩
      have hbx0 : ((wr.alloc (.cells #[.int .i64 y, .int .i64 (-1 - (i : Int))] 45)).alloc (.cells #[.int .i64 y, .int .i64 (-1 - (i : Int))] 45)).heap[B]? = some (.cells #[.int .i64 y, .int .i64 (-1 - (i : Int))] 45 (0, 0)) := by rw [hB]; exact blk_alloc (blk_new wr _) _
      have hnw0 : ((wr.alloc (.cells #[.int .i64 y, .int .i64 (-1 - (i : Int))] 45)).alloc (.cells #[.int .i64 y, .int .i64 (-1 - (i : Int))] 45)).heap[B + 1]? = some (.cells #[.int .i64 y, .int .i64 (-1 - (i : Int))] 45 (0, 0)) := by rw [hB]; simpa using blk_new (wr.alloc _) _
      have hown0 := (HOWN.out.alloc (.cells #[.int .i64 y, .int .i64 (-1 - (i : Int))] 45)).alloc (.cells #[.int .i64 y, .int .i64 (-1 - (i : Int))] 45)
      have hK0 : ∀ F : List Nat, Keeps F wr ((wr.alloc (.cells #[.int .i64 y, .int .i64 (-1 - (i : Int))] 45)).alloc (.cells #[.int .i64 y, .int .i64 (-1 - (i : Int))] 45)) := fun F => ((Keeps.refl F wr).alloc _).alloc _
      have hlB : ∀ k, u6.ownBlock = some k → k < B := fun k hk => by rw [hB]; exact (World.ownsRow.lt HOWN.out k hk).2
      have hsz0 : ((wr.alloc (.cells #[.int .i64 y, .int .i64 (-1 - (i : Int))] 45)).alloc (.cells #[.int .i64 y, .int .i64 (-1 - (i : Int))] 45)).heap.size = B + 2 := by simp [hB]
      have hmB : m + 1 ≤ B + 2 := by omega
      have hbxa : (wr.alloc (.cells #[.int .i64 y, .int .i64 (-1 - (i : Int))] 45)).heap[B]? = some (.cells #[.int .i64 y, .int .i64 (-1 - (i : Int))] 45 (0, 0)) := by rw [hB]; exact blk_new wr _
      have ba0 := cell_blk hbxa 0
      have ba1 := cell_blk hbxa 1
      go_upto_region 8 with (fail)
      rw [← hB]
      have HB := Lib.hid hB
      have HBX := Lib.hid hbx0
      have HNW := Lib.hid hnw0
      have HOW := Lib.hid hown0
      have HK0 := Lib.hid hK0
      have HLB := Lib.hid hlB
      clear hB hbxa hbx0 hnw0 hown0 hK0 hlB
      generalize hw1 : ((wr.alloc (.cells #[.int .i64 y, .int .i64 (-1 - (i : Int))] 45)).alloc (.cells #[.int .i64 y, .int .i64 (-1 - (i : Int))] 45)) = wb at hsz0 HBX HNW HOW HK0
      have HW1 := Lib.hid hw1
      clear hw1
      go_wp2_with (at_builtin; rw [HW1.out]; refine wpList_append_lies _ rfl _ _ 56 rfl (m + 1) 45 i0 _ 2 16 Try.underlying56 hi hz0 hz1 hz2 rfl (by decide) u6 i (flat ei2 (fi xs i)) rfl HOW.out ⟨wr.heap.size + 1, 0, none⟩ 1 1 (ei2 (y, -1 - (i : Int))) rfl rfl (by rw [← HB.out]; exact World.news_of_block HNW.out) (by simp [ei2, Value.oneCell']) (by decide) (by unfold maxLen; omega) (by omega) (by rw [hsz0]; omega) (B + 2) hsz0 ?_; intro g cap3 w3 hown3 hgrow3 hat3 hlt3; have hbx3 := blk_grown hgrow3 HBX.out (fun e => by have := HLB.out B e; omega); have bx0 := cell_blk hbx3 0; have bx1 := cell_blk hbx3 1; have HOWN3 := Lib.hid hown3; have HGROW3 := Lib.hid hgrow3; have HAT3 := Lib.hid hat3; clear hown3 hgrow3 hat3 hbx3)
      have HM3 := Lib.hid (HMH.out.kept (Keeps.grown (HK0.out u6.ownBlock.toList) HGROW3.out (fun k e => .inl (by simpa using e))) (by intro hf; have := World.ownsRow.lt HOWN.out m (by simpa using hf); omega) (fun g hg hf => (HG.out g hg).2.2 (by simpa using hf)))
      have HK3 := Lib.hid (Keeps.grown (HK0.out u6.ownBlock.toList) HGROW3.out (fun k e => .inl (by simpa using e)))
      refine (refPush m G (y, -1 - (i : Int)) (ml (fi xs i)) _ HM3.out (by rw [ml_length]; omega)).mono ?_
      rintro e w4 ⟨rfl, G', hm4, K4, hG4⟩
      rw [← ml_snoc, ← HSN.out] at hm4
      have HM4 := Lib.hid hm4
      have HK4 := Lib.hid K4
      have HG4 := Lib.hid hG4
      clear hm4 K4 hG4 bx0 bx1
      have hgm : g ≠ m := by
        have h := World.ownsRow.lt HOWN3.out g (by simp [Value.ownBlock])
        omega
      go_wp2
      go_roundg (12 - (i + 1))
      case rel =>
        refine ⟨i + 1, G'.filter (fun k => decide (k < w4.heap.size)), Nat.le_refl _, by go_num, by omega, by omega, ?_, by omega, HM4.out.filter ?_, ?_, ?_⟩
        · rw [HSN.out]
          have e : flat ei2 (fi xs i ++ [(y, -1 - (i : Int))]) = flat ei2 (fi xs i) ++ ei2 (y, -1 - (i : Int)) := by simp [flat]
          rw [e]
          refine ownsRow_same HOWN3.out (fun q hq => ?_)
          have : q = g := by simpa [Value.ownBlock] using hq.symm
          subst this
          exact HK4.out.block _ hlt3 (by simpa using hgm)
        · intro e
          have := congrArg List.length e
          rw [ml_length] at this
          simp at this
        · intro q hq
          have h1 := HG4.out q (List.mem_filter.1 hq).1
          have h2 := of_decide_eq_true (List.mem_filter.1 hq).2
          have h3 := World.ownsRow.lt HOWN3.out g (by simp [Value.ownBlock])
          refine ⟨by omega, h2, ?_⟩
          simp [Value.ownBlock]
          omega
        · exact (HK.out.andThen HK3.out (by intro q hq; have := World.ownsRow.lt HOWN.out q (by simpa using hq); have := hsz; exact .inr (by omega))).trans HK4.out
      case measure => omega
    · have hstop : decide (i < xs.length) = false ∨ (decide (i < xs.length) = true ∧ decide ((i : Int) < 12) = false) := by
        rcases Nat.lt_or_ge i xs.length with h | h
        · exact .inr ⟨by simpa using h, by simp; omega⟩
        · exact .inl (by simpa using h)
      have hW : Keeps [] w wr := K2.andThen HK.out (by intro g hg; simp at hg; exact .inr (by omega))
      have hnew := new_any u6 xs i (m + 1) wr (by omega) HOWN.out HNIL.out
      have HNEW := Lib.hid hnew
      have HWK := Lib.hid hW
      have hmwr : m < wr.heap.size := by omega
      clear hnew hW HOWN HNIL HK hlt
      rcases hstop with hd | ⟨hd, hd2⟩
      all_goals
        go_wp2_with fail
        refine HNEW.out.mono ?_
        rintro e w5 ⟨F, rfl, hq, K5, hF⟩
        go_wp2_with fail
        have hBoth : Both w5 wr.heap.size m F G i (pour keyT 0 [] (fi xs i)) := ⟨hq, by rw [(pour_facts xs i).2.2]; exact HMH.out.kept K5 (by simp) (by simp), fun h => by have := hF _ h; omega, fun g hg h => by have := hF _ h; have := (HG.out g hg).2.1; omega, fun g hg => by have := (HG.out g hg).2.1; have := K5.size; omega⟩
        have HB0 := Lib.hid hBoth
        have hlS : (pour keyT 0 [] (fi xs i)).length = i := by rw [pour_length, fi_len]; simp
        have HLS := Lib.hid hlS
        have HW5 := Lib.hid (HWK.out.trans K5)
        have HF5 : Hid (∀ k ∈ F, w.heap.size ≤ k) := Lib.hid (fun k hk => by have := hF k hk; omega)
        have HG5 : Hid (∀ k ∈ G, w.heap.size ≤ k) := Lib.hid (fun k hk => by have := (HG.out k hk).1; omega)
        obtain ⟨b, hb⟩ : ∃ b, b = wr.heap.size := ⟨_, rfl⟩
        rw [← hb] at HB0 ⊢
        clear hb hBoth hlS hq K5 hF HNEW HMH HG HWK
        go_loopg [11] (60) (fun gh iv wr => ∃ (i2 : Nat) (F G : List Nat) (came : Nat) (S : List ((Int × Int) × Nat)), 60 - i2 ≤ gh ∧ iv = .int .i64 i2 ∧ i2 ≤ 60 ∧ i2 ≤ acts.length ∧ Both wr b m F G came S ∧ came ≤ 12 + i2 ∧ S.length ≤ 12 + i2 ∧ Keeps [] w wr ∧ (∀ k ∈ F, w.heap.size ≤ k) ∧ (∀ k ∈ G, w.heap.size ≤ k))
        case atStart => exact ⟨0, F, G, i, _, by omega, rfl, by omega, by omega, HB0.out, by omega, by rw [HLS.out]; omega, HW5.out, HF5.out, HG5.out⟩
        case round =>
          obtain ⟨i2, F, G, came, S, hgh2, rfl, hi60, hi2l, hboth, hcame, hSl, hK, hF, hG⟩ := hrel
          have HBO := Lib.hid hboth
          have HK := Lib.hid hK
          have HF := Lib.hid hF
          have HG := Lib.hid hG
          clear hboth hK hF hG HB0 HLS HW5 HF5 HG5
          by_cases hlt : i2 < acts.length ∧ i2 < 60
          · obtain ⟨h1, h2⟩ := hlt
            obtain ⟨x, hx⟩ : ∃ x, acts[i2]? = some x := ⟨acts[i2], by simp [h1]⟩
            obtain ⟨b0, o0, ha, hc0, hc1⟩ := HC2.out i2 x hx
            subst ha
            have hwx := HWA.out x (List.mem_of_getElem? hx)
            have hr0 : wr.cell? ⟨b0, o0 + i2 * 2, none⟩ = some (.int .i64 x.1) := by
              rw [← hc0]
              exact World.cell?_of_block (HK.out.block b0 (World.block_lt_of_cell? _ _ hc0) (by simp))
            have hr1 : wr.cell? ⟨b0, o0 + i2 * 2 + 1, none⟩ = some (.int .i64 x.2) := by
              rw [← hc1]
              exact World.cell?_of_block (HK.out.block b0 (World.block_lt_of_cell? _ _ hc0) (by simp))
            have h1' : (i2 : Int) < (acts.length : Int) := by omega
            have h2' : (i2 : Int) < 60 := by omega
            have HWX := Lib.hid hwx
            clear hc0 hc1 hx hwx
            go_wp2_with fail
            refine (does_any b m F G came S x.1 x.2 (i2 : Int) _ HBO.out (by omega) (by omega) HWX.out.1 HWX.out.2).mono ?_
            rintro e w6 ⟨rfl, F', G', came', S', hbo6, hc6, hS6, K6, hF6, hG6⟩
            obtain ⟨hq6, hm6, h36, hg6, hgl6⟩ := hbo6
            obtain ⟨A6, c6, hmb6, hlc6, -, hAn6, hrow6⟩ := id hm6
            rw [List.length_map] at hmb6 hlc6
            have m60 := cell_blk hmb6 0
            have HQ6 := Lib.hid hq6
            have HM6 := Lib.hid hm6
            have HG6 := Lib.hid (And.intro hg6 hgl6)
            have HMB6 := Lib.hid hmb6
            have HR6 := Lib.hid hrow6
            have HAN6 := Lib.hid hAn6
            have HK6 := Lib.hid (HK.out.andThen K6 (by intro g hg; rcases List.mem_cons.1 hg with rfl | hg; (· exact .inr hwm); (· exact .inr (HF.out g hg))))
            have HF6 : Hid (∀ k ∈ F', w.heap.size ≤ k) := Lib.hid (fun k hk => by
              rcases hF6 k hk with h | h
              · exact HF.out k h
              · have := HK.out.size; omega)
            have HG6' : Hid (∀ k ∈ G', w.heap.size ≤ k) := Lib.hid (fun k hk => by
              rcases hG6 k hk with h | h
              · exact HG.out k h
              · have := HK.out.size; omega)
            have hnn : ((S'.length : Int) != (S'.length : Int)) = false := by simp
            have hS' : S'.length ≤ 200 := by omega
            clear hq6 hm6 hg6 hgl6 hmb6 hrow6 hAn6 K6 hF6 hG6 HBO HK HF HG hr0 hr1
            go_wp2_with fail
            go_quiet ((go_at_call 25; exact Calls.quiet_of_same ((lenT b F' came' S' _ (HQ6.out.kept ((Keeps.refl [] w6).drewN _) (by simp))).mono fun _ _ ⟨a, b⟩ => ⟨a, b.symm⟩)))
            have K7 : Keeps [] w6 (w6.drewN nq) := (Keeps.refl _ _).drewN nq
            clear m60
            generalize w6.drewN nq = w7 at K7 ⊢
            have HQ7 := Lib.hid (HQ6.out.kept K7 (by simp))
            cases S' with
            | nil =>
              go_wp2_with fail
              refine (peekT_none b F' came' _ HQ7.out).mono ?_
              rintro e w8 ⟨rfl, K8⟩
              have K9 := (K7.trans K8).alloc (.cells #[.int .i64 0, .int .i64 0] 45)
              have m90 := cell_blk (K9.blk HMB6.out (by simp)) 0
              go_wp2_with fail
              go_quiet (fail)
              have K10 := K9.drewN nq
              generalize (w8.alloc (.cells #[.int .i64 0, .int .i64 0] 45)).drewN nq = w9 at K10 ⊢
              obtain ⟨T, hT⟩ : ∃ T : List ((Int × Int) × Nat), T = [] := ⟨_, rfl⟩
              rw [← hT] at HQ6 HM6 HMB6 HR6 hS' hlc6 hS6
              clear hT m90
              have hnn : ((T.length : Int) != (T.length : Int)) = false := by simp
              have K11 := K10.alloc (.cells #[.slice none 0 0] 65)
              have hsb := blk_new w9 (.cells #[.slice none 0 0] 65)
              go_wp2_with fail
              have hs9 := K10.size
              obtain ⟨sb, hs⟩ : ∃ sb, sb = w9.heap.size := ⟨_, rfl⟩
              rw [← hs] at hsb hs9 ⊢
              clear hs
              generalize w9.alloc (.cells #[.slice none 0 0] 65) = w10 at K11 hsb ⊢
              have hsF : sb ∉ F' := fun h => by have := HQ6.out.lt _ h; omega
              refine (each_any b sb F' came' T w10 (HQ6.out.kept K11 (by simp)) (Seen.new hsb) hsF (by omega)).mono ?_
              rintro e w11 ⟨rfl, G7, ⟨v7, hb7, hown7, -, -⟩, K12⟩
              have K13 : Keeps [] w6 w11 := K11.andThen K12 (by intro g hg; simp at hg; subst hg; exact .inr hs9)
              have hrow7 : ∃ A7 c7, v7 = .slice A7 T.length c7 ∧ T.length ≤ c7 ∧ ∀ k x, (T.map Prod.fst)[k]? = some x → ∃ g, A7 = some ⟨g, 0, none⟩ ∧ w11.cell? ⟨g, k * 2, none⟩ = some (.int .i64 x.1) ∧ w11.cell? ⟨g, k * 2 + 1, none⟩ = some (.int .i64 x.2) := by
                rw [List.length_map] at hown7
                rcases hown7.2 with ⟨hv, hn0⟩ | ⟨g, c7, cur, hv, h5⟩
                · have hT0 : T = [] := List.eq_nil_of_length_eq_zero hn0
                  subst hT0
                  exact ⟨none, 0, hv, Nat.le_refl _, by simp⟩
                · subst hv
                  obtain ⟨_, _, _, h8, _, _⟩ := owns_row hown7
                  exact ⟨_, c7, rfl, by first | exact h8 | omega, fun k x hx => ⟨g, rfl, row_own (by simp) hown7 k x hx⟩⟩
              obtain ⟨A7, c7, rfl, hlc7, hrow7⟩ := hrow7
              have HB7 := Lib.hid hb7
              have HR7 := Lib.hid hrow7
              have HK13 := Lib.hid K13
              have m70 := cell_blk (K13.blk HMB6.out (by simp)) 0
              have s70 := cell_blk hb7 0
              clear hb7 hown7 hrow7 K13 K12 K11 K10 hsb hsF
              go_wp2_with fail
              go_quiet (fail)
              have K14 : Keeps [] w11 (w11.drewN nq) := (Keeps.refl _ _).drewN nq
              generalize w11.drewN nq = w12 at K14 ⊢
              clear m70 s70
              have HK14 := Lib.hid K14
              clear K14
              go_wp2_with fail
              go_loopg [16] (T.length) (fun gh kv wr => ∃ (k : Nat), T.length - k ≤ gh ∧ kv = .int .i64 k ∧ k ≤ T.length ∧ Keeps [] w11 wr)
              case atStart => exact ⟨0, by omega, rfl, by omega, HK14.out⟩
              case round =>
                obtain ⟨k, hgk, rfl, hkT, hK15⟩ := hrel
                have m70 := cell_blk (hK15.blk (HK13.out.blk HMB6.out (by simp)) (by simp)) 0
                have s70 := cell_blk (hK15.blk HB7.out (by simp)) 0
                have HK15 := Lib.hid hK15
                clear hK15
                by_cases hk : k < T.length
                · obtain ⟨x7, hx7⟩ : ∃ x, (T.map Prod.fst)[k]? = some x := ⟨(T.map Prod.fst)[k]'(by simpa using hk), by simp [hk]⟩
                  obtain ⟨g7, hA7, hc70, hc71⟩ := HR7.out k x7 hx7
                  obtain ⟨a6, ha6⟩ : ∃ a, A6 = some a := by
                    cases A6 with
                    | none => have := HAN6.out rfl; omega
                    | some a => exact ⟨a, rfl⟩
                  obtain ⟨g6, o6, hag, hgG, hgl, hrw⟩ := HR6.out a6 ha6
                  obtain ⟨hr0, hr1⟩ := hrw k x7 hx7
                  subst hag
                  rw [ha6] at m70
                  rw [hA7] at s70
                  have q0 := (World.cell?_of_block (a := ⟨g7, k * 2, none⟩) (HK15.out.block g7 (World.block_lt_of_cell? _ _ hc70) (by simp))).trans hc70
                  have q1 := (World.cell?_of_block (a := ⟨g7, k * 2 + 1, none⟩) (HK15.out.block g7 (World.block_lt_of_cell? _ _ hc70) (by simp))).trans hc71
                  have r0 := (World.cell?_of_block (a := ⟨g6, o6 + k * 2, none⟩) ((HK13.out.trans HK15.out).block g6 (World.block_lt_of_cell? _ _ hr0) (by simp))).trans hr0
                  have r1 := (World.cell?_of_block (a := ⟨g6, o6 + k * 2 + 1, none⟩) ((HK13.out.trans HK15.out).block g6 (World.block_lt_of_cell? _ _ hr0) (by simp))).trans hr1
                  have hdk : decide (k < T.length) = true := by simpa using hk
                  have hk1 : (k : Int) < (T.length : Int) := by omega
                  clear hr0 hr1 hc70 hc71 hx7 hrw ha6 hA7 hgl hgG
                  go_wp2_with fail
                  go_quiet (fail)
                  have K16 := Lib.hid (HK15.out.drewN nq)
                  generalize wr.drewN nq = w13 at K16 ⊢
                  clear q0 q1 r0 r1 m70 s70 HK15
                  go_wp2
                  go_roundg (T.length - (k + 1))
                  case rel => exact ⟨k + 1, Nat.le_refl _, by go_num, by omega, K16.out⟩
                  case measure => omega
                · obtain rfl : k = T.length := by omega
                  have hdk : decide (T.length < T.length) = false := by simp
                  have KE := Lib.hid (HK13.out.trans HK15.out)
                  clear m70
                  go_wp2_with fail
                  go_roundg (60 - (i2 + 1))
                  case rel => exact ⟨i2 + 1, F', G', came', T, Nat.le_refl _, by go_num, by omega, by omega, ⟨HQ6.out.kept KE.out (by simp), HM6.out.kept KE.out (by simp) (by simp), h36, HG6.out.1, fun g hg => by have := HG6.out.2 g hg; have := KE.out.size; omega⟩, by omega, by omega, HK6.out.trans KE.out, HF6.out, HG6'.out⟩
                  case measure => omega
            | cons s S2 =>
              have hgt : ((S2.length : Int) + 1) > 0 := by omega
              go_wp2_with fail
              refine (peekT_some b F' came' s S2 _ HQ7.out).mono ?_
              rintro e w8 ⟨rfl, K8⟩
              have K9 := (K7.trans K8).alloc (.cells #[.int .i64 s.1.1, .int .i64 s.1.2] 45)
              have m90 := cell_blk (K9.blk HMB6.out (by simp)) 0
              have hx9 := blk_new w8 (.cells #[.int .i64 s.1.1, .int .i64 s.1.2] 45)
              have x90 := cell_blk hx9 0
              have x91 := cell_blk hx9 1
              obtain ⟨a6, ha6⟩ : ∃ a, A6 = some a := by
                cases A6 with
                | none => have := HAN6.out rfl; simp at hlc6; omega
                | some a => exact ⟨a, rfl⟩
              obtain ⟨g6, o6, rfl, hgG, hgl, hrw⟩ := HR6.out a6 ha6
              rw [ha6] at m90
              have hr := hrw 0 s.1 (by simp)
              simp only [Nat.zero_mul, Nat.add_zero] at hr
              have hgl' := hgl (by simp)
              have r90 := (World.cell?_of_block (a := ⟨g6, o6, none⟩) (K9.block g6 hgl' (by simp))).trans hr.1
              have r91 := (World.cell?_of_block (a := ⟨g6, o6 + 1, none⟩) (K9.block g6 hgl' (by simp))).trans hr.2
              have hn0 : 0 < S2.length + 1 := by omega
              clear hr hrw hgl hgl' ha6
              go_wp2_with fail
              go_quiet (fail)
              have K10 := K9.drewN nq
              generalize (w8.alloc (.cells #[.int .i64 s.1.1, .int .i64 s.1.2] 45)).drewN nq = w9 at K10 ⊢
              obtain ⟨T, hT⟩ : ∃ T : List ((Int × Int) × Nat), T = s :: S2 := ⟨_, rfl⟩
              rw [← hT] at HQ6 HM6 HMB6 HR6 hS' hlc6 hS6
              clear hT m90 hx9 x90 x91 r90 r91 hn0 hgt
              have hnn : ((T.length : Int) != (T.length : Int)) = false := by simp
              have K11 := K10.alloc (.cells #[.slice none 0 0] 65)
              have hsb := blk_new w9 (.cells #[.slice none 0 0] 65)
              go_wp2_with fail
              have hs9 := K10.size
              obtain ⟨sb, hs⟩ : ∃ sb, sb = w9.heap.size := ⟨_, rfl⟩
              rw [← hs] at hsb hs9 ⊢
              clear hs
              generalize w9.alloc (.cells #[.slice none 0 0] 65) = w10 at K11 hsb ⊢
              have hsF : sb ∉ F' := fun h => by have := HQ6.out.lt _ h; omega
              refine (each_any b sb F' came' T w10 (HQ6.out.kept K11 (by simp)) (Seen.new hsb) hsF (by omega)).mono ?_
              rintro e w11 ⟨rfl, G7, ⟨v7, hb7, hown7, -, -⟩, K12⟩
              have K13 : Keeps [] w6 w11 := K11.andThen K12 (by intro g hg; simp at hg; subst hg; exact .inr hs9)
              have hrow7 : ∃ A7 c7, v7 = .slice A7 T.length c7 ∧ T.length ≤ c7 ∧ ∀ k x, (T.map Prod.fst)[k]? = some x → ∃ g, A7 = some ⟨g, 0, none⟩ ∧ w11.cell? ⟨g, k * 2, none⟩ = some (.int .i64 x.1) ∧ w11.cell? ⟨g, k * 2 + 1, none⟩ = some (.int .i64 x.2) := by
                rw [List.length_map] at hown7
                rcases hown7.2 with ⟨hv, hn0⟩ | ⟨g, c7, cur, hv, h5⟩
                · have hT0 : T = [] := List.eq_nil_of_length_eq_zero hn0
                  subst hT0
                  exact ⟨none, 0, hv, Nat.le_refl _, by simp⟩
                · subst hv
                  obtain ⟨_, _, _, h8, _, _⟩ := owns_row hown7
                  exact ⟨_, c7, rfl, by first | exact h8 | omega, fun k x hx => ⟨g, rfl, row_own (by simp) hown7 k x hx⟩⟩
              obtain ⟨A7, c7, rfl, hlc7, hrow7⟩ := hrow7
              have HB7 := Lib.hid hb7
              have HR7 := Lib.hid hrow7
              have HK13 := Lib.hid K13
              have m70 := cell_blk (K13.blk HMB6.out (by simp)) 0
              have s70 := cell_blk hb7 0
              clear hb7 hown7 hrow7 K13 K12 K11 K10 hsb hsF
              go_wp2_with fail
              go_quiet (fail)
              have K14 : Keeps [] w11 (w11.drewN nq) := (Keeps.refl _ _).drewN nq
              generalize w11.drewN nq = w12 at K14 ⊢
              clear m70 s70
              have HK14 := Lib.hid K14
              clear K14
              go_wp2_with fail
              go_loopg [16] (T.length) (fun gh kv wr => ∃ (k : Nat), T.length - k ≤ gh ∧ kv = .int .i64 k ∧ k ≤ T.length ∧ Keeps [] w11 wr)
              case atStart => exact ⟨0, by omega, rfl, by omega, HK14.out⟩
              case round =>
                obtain ⟨k, hgk, rfl, hkT, hK15⟩ := hrel
                have m70 := cell_blk (hK15.blk (HK13.out.blk HMB6.out (by simp)) (by simp)) 0
                have s70 := cell_blk (hK15.blk HB7.out (by simp)) 0
                have HK15 := Lib.hid hK15
                clear hK15
                by_cases hk : k < T.length
                · obtain ⟨x7, hx7⟩ : ∃ x, (T.map Prod.fst)[k]? = some x := ⟨(T.map Prod.fst)[k]'(by simpa using hk), by simp [hk]⟩
                  obtain ⟨g7, hA7, hc70, hc71⟩ := HR7.out k x7 hx7
                  obtain ⟨a6, ha6⟩ : ∃ a, A6 = some a := by
                    cases A6 with
                    | none => have := HAN6.out rfl; omega
                    | some a => exact ⟨a, rfl⟩
                  obtain ⟨g6, o6, hag, hgG, hgl, hrw⟩ := HR6.out a6 ha6
                  obtain ⟨hr0, hr1⟩ := hrw k x7 hx7
                  subst hag
                  rw [ha6] at m70
                  rw [hA7] at s70
                  have q0 := (World.cell?_of_block (a := ⟨g7, k * 2, none⟩) (HK15.out.block g7 (World.block_lt_of_cell? _ _ hc70) (by simp))).trans hc70
                  have q1 := (World.cell?_of_block (a := ⟨g7, k * 2 + 1, none⟩) (HK15.out.block g7 (World.block_lt_of_cell? _ _ hc70) (by simp))).trans hc71
                  have r0 := (World.cell?_of_block (a := ⟨g6, o6 + k * 2, none⟩) ((HK13.out.trans HK15.out).block g6 (World.block_lt_of_cell? _ _ hr0) (by simp))).trans hr0
                  have r1 := (World.cell?_of_block (a := ⟨g6, o6 + k * 2 + 1, none⟩) ((HK13.out.trans HK15.out).block g6 (World.block_lt_of_cell? _ _ hr0) (by simp))).trans hr1
                  have hdk : decide (k < T.length) = true := by simpa using hk
                  have hk1 : (k : Int) < (T.length : Int) := by omega
                  clear hr0 hr1 hc70 hc71 hx7 hrw ha6 hA7 hgl hgG
                  go_wp2_with fail
                  go_quiet (fail)
                  have K16 := Lib.hid (HK15.out.drewN nq)
                  generalize wr.drewN nq = w13 at K16 ⊢
                  clear q0 q1 r0 r1 m70 s70 HK15
                  go_wp2
                  go_roundg (T.length - (k + 1))
                  case rel => exact ⟨k + 1, Nat.le_refl _, by go_num, by omega, K16.out⟩
                  case measure => omega
                · obtain rfl : k = T.length := by omega
                  have hdk : decide (T.length < T.length) = false := by simp
                  have KE := Lib.hid (HK13.out.trans HK15.out)
                  clear m70
                  go_wp2_with fail
                  go_roundg (60 - (i2 + 1))
                  case rel => exact ⟨i2 + 1, F', G', came', T, Nat.le_refl _, by go_num, by omega, by omega, ⟨HQ6.out.kept KE.out (by simp), HM6.out.kept KE.out (by simp) (by simp), h36, HG6.out.1, fun g hg => by have := HG6.out.2 g hg; have := KE.out.size; omega⟩, by omega, by omega, HK6.out.trans KE.out, HF6.out, HG6'.out⟩
                  case measure => omega
          · have hstop2 : decide (i2 < acts.length) = false ∨ (decide (i2 < acts.length) = true ∧ decide ((i2 : Int) < 60) = false) := by
              rcases Nat.lt_or_ge i2 acts.length with h | h
              · exact .inr ⟨by simpa using h, by simp; omega⟩
              · exact .inl (by simpa using h)
            clear hlt
            rcases hstop2 with hd3 | ⟨hd3, hd4⟩
            all_goals
              go_wp2
              go_ret
              exact ⟨rfl, HK.out⟩
end Go.Proofs.Ytlcbcagbiiachaa
