/- The walk of HeapSorts. -/
import Derived.Test.YtlcbcagbiiachaaCount
import Derived.StillTailTactics
namespace Go.Proofs.Ytlcbcagbiiachaa
open Go.RowKit Go.Shelf
attribute [local go_sem] Oper.semAt_some

theorem RowAt.kept {α : Type} {enc : α → Value} {w w' : World} {v : Value} {xs : List α} (h : RowAt enc w v xs) (k : Keeps [] w w') : RowAt enc w' v xs := by
  obtain ⟨a, cap, h1, h2, h3⟩ := h
  refine ⟨a, cap, h1, h2, fun hne => ?_⟩
  obtain ⟨b, o, h4, h5⟩ := h3 hne
  exact ⟨b, o, h4, fun i x hx => cell_kept k (h5 i x hx) (by simp)⟩

theorem RowAt.at {α : Type} {enc : α → Value} {w : World} {a : Option Addr} {n cap : Nat} {xs : List α} (h : RowAt enc w (.slice a n cap) xs) {i : Nat} {x : α} (hx : xs[i]? = some x) :
    ∃ b o, a = some ⟨b, o, none⟩ ∧ w.cell? ⟨b, o + i, none⟩ = some (enc x) := by
  obtain ⟨a', cap', h1, h2, h3⟩ := h
  simp only [Value.slice.injEq] at h1
  obtain ⟨rfl, rfl, rfl⟩ := h1
  obtain ⟨b, o, h4, h5⟩ := h3 (by rintro rfl; simp at hx)
  exact ⟨b, o, h4, h5 i x hx⟩

/-- A row cut off. -/
theorem RowAt.take {α : Type} {enc : α → Value} {w : World} {a : Option Addr} {cap : Nat} {xs : List α} (h : RowAt enc w (.slice a xs.length cap) xs) (n : Nat) (hn : n ≤ xs.length) :
    RowAt enc w (.slice a (xs.take n).length cap) (xs.take n) := by
  obtain ⟨a', cap', h1, h2, h3⟩ := h
  simp only [Value.slice.injEq, true_and] at h1
  obtain ⟨rfl, rfl⟩ := h1
  refine ⟨a, cap, rfl, by simp; omega, fun hne => ?_⟩
  obtain ⟨b, o, h4, h5⟩ := h3 (by rintro rfl; simp at hne)
  refine ⟨b, o, h4, fun i x hx => h5 i x ?_⟩
  rw [List.getElem?_take] at hx
  split at hx
  · exact hx
  · cases hx

theorem w64 (a : Int) : RowKit.wrap64 a = IntKind.i64.wrap a := by simp [RowKit.wrap64, IntKind.wrap_i64]
theorem perm_sum {l l' : List Int} (h : l.Perm l') : l.sum = l'.sum := by
  induction h with
  | nil => rfl
  | cons x _ ih => simp [ih]
  | swap x y l => simp; omega
  | trans _ _ h1 h2 => exact h1.trans h2

theorem ins_ord_pour : ∀ (xs : List Int), Ord keyI (pour keyI 0 [] xs) := by
  have h : ∀ (xs : List Int) (c : Nat) (S : List (Int × Nat)), Ord keyI S → (∀ y ∈ S, y.2 < c) → Ord keyI (pour keyI c S xs) := by
    intro xs
    induction xs with
    | nil => intro c S h _; exact h
    | cons x xs ih =>
      intro c S h hc
      refine ih (c + 1) _ (ins_ord h hc) ?_
      intro y hy
      have := (ins_perm (key := keyI) (x, c) S).mem_iff.1 hy
      simp only [List.mem_cons] at this
      rcases this with rfl | hy'
      · exact Nat.lt_succ_self _
      · have := hc y hy'; omega
  exact fun xs => h xs 0 [] List.Pairwise.nil (by simp)

set_option maxHeartbeats 4000000 in
set_option maxRecDepth 100000 in
theorem sorts_walk (v v' : Value) (xs0 : List Int) (ss0 : List ByteArray) (w : World) (hm : xs0.length ≤ 9223372036854775807) (hm' : ss0.length ≤ 9223372036854775807) (hv : RowAt (fun x : Int => .int .i64 x) w v xs0) (hv' : RowAt (fun x : ByteArray => .string x) w v' ss0) :
    Calls Try.prog 3 #[v, v'] w fun e w' => e = .returned (.bool true) ∧ Keeps [] w w' := by
  have hvv := hv
  have hvv' := hv'
  obtain ⟨a, cap, rfl, hlc, -⟩ := hv
  obtain ⟨a', cap', rfl, hlc', -⟩ := hv'
  obtain ⟨xs, n, hxe, hxn, hxs⟩ : ∃ (xs : List Int) (n : Nat), (xs0.length ≤ 60 ∧ n = xs0.length ∨ 60 < xs0.length ∧ n = 60) ∧ xs.length = n ∧ RowAt (fun x : Int => Value.int .i64 x) w (.slice a n cap) xs := by
    by_cases h : 60 < xs0.length
    · have h2 := hvv.take 60 (by omega)
      have e : (xs0.take 60).length = 60 := by simp; omega
      rw [e] at h2
      exact ⟨xs0.take 60, 60, .inr ⟨h, rfl⟩, e, h2⟩
    · exact ⟨xs0, xs0.length, .inl ⟨by omega, rfl⟩, rfl, hvv⟩
  obtain ⟨ss, n', hse, hsn, hss⟩ : ∃ (ss : List ByteArray) (n' : Nat), (ss0.length ≤ 60 ∧ n' = ss0.length ∨ 60 < ss0.length ∧ n' = 60) ∧ ss.length = n' ∧ RowAt (fun x : ByteArray => Value.string x) w (.slice a' n' cap') ss := by
    by_cases h : 60 < ss0.length
    · have h2 := hvv'.take 60 (by omega)
      have e : (ss0.take 60).length = 60 := by simp; omega
      rw [e] at h2
      exact ⟨ss0.take 60, 60, .inr ⟨h, rfl⟩, e, h2⟩
    · exact ⟨ss0, ss0.length, .inl ⟨by omega, rfl⟩, rfl, hvv'⟩
  have HXN := Lib.hid hxn
  have HSN := Lib.hid hsn
  have HXS := Lib.hid hxs
  have HSS := Lib.hid hss
  have hn60 : n ≤ 60 := by omega
  have hn60' : n' ≤ 60 := by omega
  clear hvv hvv' hxn hsn hxs hss
  have hfn := drainNotNilI
  refine (callsIn_wide (n := 9)).1 ?_
  refine callsIn_of_wp_marks Try.func3 rfl trivial ?_ rfl
  simp only [Try.ntmps3, List.size_toArray, List.length_cons, List.length_nil, Nat.reduceAdd, Nat.reduceSub, Array.replicate_succ, Array.replicate_zero, List.push_toArray, List.append_toArray, List.nil_append, List.cons_append]
  refine wpIn_wide.2 ?_
  go_wp2_with fail
  refine (awake_true _).mono ?_
  rintro e w1 ⟨rfl, K1⟩
  obtain ⟨vx, hvx⟩ : ∃ vx : Value, vx = .slice a n cap := ⟨_, rfl⟩
  obtain ⟨vs, hvs⟩ : ∃ vs : Value, vs = .slice a' n' cap' := ⟨_, rfl⟩
  have HN := Lib.hid hn60
  have HN' := Lib.hid hn60'
  have HVX := Lib.hid hvx
  have HVS := Lib.hid hvs
  clear hvx hvs hn60 hn60'
  rcases hxe with ⟨t1, e1⟩ | ⟨t1, e1⟩ <;> rcases hse with ⟨t2, e2⟩ | ⟨t2, e2⟩
  all_goals
    have E1 := Lib.hid e1
    have E2 := Lib.hid e2
    clear e1 e2
    go_wp2_with fail
    try rw [show Value.slice a' 60 cap' = Value.slice a' n' cap' from (congrArg (fun k => Value.slice a' k cap') E2.out).symm]
    try rw [show Value.slice a' ss0.length cap' = Value.slice a' n' cap' from (congrArg (fun k => Value.slice a' k cap') E2.out).symm]
    try rw [show Value.slice a 60 cap = Value.slice a n cap from (congrArg (fun k => Value.slice a k cap) E1.out).symm]
    try rw [show Value.slice a xs0.length cap = Value.slice a n cap from (congrArg (fun k => Value.slice a k cap) E1.out).symm]
    clear E1 E2 t1 t2 hm hm' hlc hlc'
  all_goals
    refine (newI _ xs _ (by rw [HXN.out]; have := HN.out; omega) (HXS.out.kept K1)).mono ?_
    rintro e w2 ⟨F1, rfl, q1, K2, hF1⟩
    go_wp2_with fail
    refine (newS_nil _).mono ?_
    rintro e w3 ⟨F2, rfl, q2, K3, hF2⟩
    have hF1l := q1.lt
    obtain ⟨b1, hb1⟩ : ∃ b, b = w1.heap.size := ⟨_, rfl⟩
    obtain ⟨b2, hb2⟩ : ∃ b, b = w2.heap.size := ⟨_, rfl⟩
    have q1' := q1.kept K3 (by simp)
    have k3 := (K1.trans K2).trans K3
    rw [← hb1] at q1' hF1 ⊢
    rw [← hb2] at q2 hF2 hF1l ⊢
    have hB1 : w.heap.size ≤ b1 := by have := K1.size; omega
    have hB2 : w.heap.size ≤ b2 := by have := K1.size; have := K2.size; omega
    obtain ⟨S1, hS1⟩ : ∃ S, S = pour keyI 0 [] xs := ⟨_, rfl⟩
    rw [← hS1] at q1'
    rw [HXN.out] at q1'
    have HS1 := Lib.hid hS1
    have HQ1 := Lib.hid q1'
    have HQ2 := Lib.hid q2
    have HK := Lib.hid k3
    have HF1 := Lib.hid hF1
    have HF1l := Lib.hid hF1l
    have HF2 := Lib.hid hF2
    clear hb1 hb2 q1 q2 q1' k3 K1 K2 K3 hF1 hF2 hF1l hS1
    clear w1 w2
    go_wp2_with fail
    go_loopg [8] (n') (fun gh iv wr => ∃ (i : Nat) (F2 : List Nat), n' - i ≤ gh ∧ iv = .int .i64 i ∧ i ≤ n' ∧ HS wr b2 F2 i (pour keyS 0 [] (ss.take i)) ∧ Keeps [] w wr ∧ HI wr b1 F1 n S1 ∧ (∀ k ∈ F2, b2 ≤ k))
    case atStart => exact ⟨0, F2, by omega, rfl, by omega, by simpa [pour] using HQ2.out, HK.out, HQ1.out, HF2.out⟩
    case round =>
      obtain ⟨i, F2, hgh, rfl, hi, hq2, hk, hq1, hf2⟩ := hrel
      have HQ2 := Lib.hid hq2
      have HK := Lib.hid hk
      have HQ1 := Lib.hid hq1
      have HF2 := Lib.hid hf2
      have hi60 : (i : Int) ≤ 60 := by have := HN'.out; omega
      clear hq2 hk hq1 hf2
      by_cases hlt : i < n'
      · obtain ⟨x, hx⟩ : ∃ x, ss[i]? = some x := ⟨ss[i]'(by have := HSN.out; omega), by simp⟩
        obtain ⟨b0, o0, ha, hcr⟩ := (HSS.out.kept HK.out).at hx
        subst ha
        have HX := Lib.hid hx
        clear hx
        have hlt' : decide (i < n') = true := by simpa using hlt
        go_wp2_with fail
        refine (pushS b2 F2 i _ x _ HQ2.out (by rw [pour_length]; simp; omega) (by omega)).mono ?_
        rintro e w4 ⟨rfl, F', hq4, K4, hF4⟩
        have ep : ins keyS (x, i) (pour keyS 0 [] (ss.take i)) = pour keyS 0 [] (ss.take (i + 1)) := by
          have hl : (ss.take i).length = i := by simp; have := HSN.out; omega
          have e : ss.take (i + 1) = ss.take i ++ [x] := by rw [List.take_add_one, HX.out]; rfl
          rw [e, pour_snoc, hl, Nat.zero_add]
        rw [ep] at hq4
        have HQ4 := Lib.hid hq4
        have HK4 := Lib.hid (HK.out.andThen K4 (fun g hg => .inr (by have := HF2.out g hg; omega)))
        have HQ14 := Lib.hid (HQ1.out.kept K4 (fun g hg hg1 => by have := HF2.out g hg; have := HF1l.out g hg1; omega))
        have HF4 : Hid (∀ k ∈ F', b2 ≤ k) := Lib.hid (fun k hk => by
          rcases hF4 k hk with h | h
          · exact HF2.out k h
          · have := HQ2.out.lt b2 HQ2.out.mem; omega)
        clear ep hq4 K4 hF4
        go_wp2
        go_roundg (n' - (i + 1))
        case rel => exact ⟨i + 1, F', Nat.le_refl _, by go_num, by omega, HQ4.out, HK4.out, HQ14.out, HF4.out⟩
        case measure => omega
      · have hlt' : decide (i < n') = false := by simpa using hlt
        have hii : pour keyS 0 [] (ss.take i) = pour keyS 0 [] ss := by rw [List.take_of_length_le (by have := HSN.out; omega)]
        have hiq := HQ2.out
        rw [hii] at hiq
        have HQ2 := Lib.hid hiq
        clear hiq hii
        have hS1l : S1.length = n := by rw [HS1.out, pour_length, HXN.out]; simp
        have HS1l := Lib.hid hS1l
        clear hS1l
        go_wp2_with fail
        go_loopg [9, 10] (n) (fun gh mv lv wr => ∃ m : Nat, n - m ≤ gh ∧ mv = .int .i64 m ∧ m ≤ n ∧ (∃ l : Int, lv = .int .i64 l ∧ (m = 0 ∨ ∃ s, S1[m - 1]? = some s ∧ l = s.1)) ∧ HI wr b1 F1 n (S1.drop m) ∧ HS wr b2 F2 i (pour keyS 0 [] ss) ∧ Keeps [] w wr)
        case atStart => exact ⟨0, by omega, rfl, by omega, ⟨0, rfl, .inl rfl⟩, by simpa using HQ1.out, HQ2.out, HK.out⟩
        case round =>
          obtain ⟨m, hgm, rfl, hmn, ⟨la, rfl, hla⟩, hq1, hq2, hk⟩ := hrel
          have HQ1 := Lib.hid hq1
          have HQ2 := Lib.hid hq2
          have HK := Lib.hid hk
          have HLA := Lib.hid hla
          have hm60 : (m : Int) ≤ 60 := by have := HN.out; omega
          clear hq1 hq2 hk hla
          go_wp2_with fail
          refine (lenI b1 F1 n _ _ HQ1.out).mono ?_
          rintro e w' ⟨rfl, rfl⟩
          by_cases hlt : m < n
          · obtain ⟨s, hs⟩ : ∃ s, S1[m]? = some s := ⟨S1[m]'(by have := HS1l.out; omega), by simp⟩
            have hd : S1.drop m = s :: S1.drop (m + 1) := by
              rw [List.drop_eq_getElem_cons (by have := HS1l.out; omega)]
              congr 1
              rw [List.getElem?_eq_getElem (by have := HS1l.out; omega)] at hs
              exact Option.some.inj hs
            have hgt : decide (0 < S1.length - m) = true := by simp; have := HS1l.out; omega
            have hord : m = 0 ∨ ¬ m = 0 ∧ ¬ s.1 < la := by
              rcases HLA.out with h | ⟨s0, h0, h1⟩
              · exact .inl h
              · by_cases hm0 : m = 0
                · exact .inl hm0
                refine .inr ⟨hm0, ?_⟩
                have h2 : Ord keyI S1 := by have h9 := ins_ord_pour xs; rw [← HS1.out] at h9; exact h9
                have h3 := (List.pairwise_iff_getElem.1 h2) (m - 1) m (by have := HS1l.out; omega) (by have := HS1l.out; omega) (by omega)
                rw [List.getElem?_eq_getElem (by have := HS1l.out; omega)] at h0 hs
                rw [Option.some.inj h0, Option.some.inj hs] at h3
                unfold ahead at h3
                simp only [keyI] at h3
                omega
            have hmem : s.1 ∈ xs := by
              have h4 := (pour_perm keyI xs 0 []).mem_iff (a := s.1)
              rw [← HS1.out] at h4
              have h5 : s.1 ∈ S1.map Prod.fst := List.mem_map.2 ⟨s, List.mem_of_getElem? hs, rfl⟩
              simpa using h4.1 h5
            have hti : (((times xs s.1 : Nat) : Int) == 0) = false := by
              have := times_pos hmem
              rw [beq_eq_false_iff_ne]; omega
            have hnm : decide (n ≤ m) = false := by simp; omega
            have hq3 := HQ1.out
            rw [hd] at hq3
            have HQ3 := Lib.hid hq3
            have HSK := Lib.hid hs
            have HHT := Lib.hid hti
            clear hd hq3 hs hmem hti
            go_wp2_with fail
            refine (popI_some b1 F1 n s (S1.drop (m + 1)) _ HQ3.out (by simp; have := HS1l.out; have := HN.out; omega)).mono ?_
            rintro e w4 ⟨rfl, hq4, K4⟩
            have HQ4 := Lib.hid hq4
            have HK4 := Lib.hid (HK.out.andThen K4 (fun g hg => .inr (by have := HF1.out g hg; omega)))
            have HQ24 := Lib.hid (HQ2.out.kept K4 (fun g hg hg1 => by have := HF1l.out g hg; have := HF2.out g hg1; omega))
            clear hq4 K4
            rcases hord with h0 | ⟨h00, h0⟩
            · have hd0 : decide (0 < m) = false := by simp; omega
              have hH := HHT.out
              go_wp2_with fail
              refine (count_any _ xs s.1 _ (by rw [HXN.out]; have := HN.out; omega) (HXS.out.kept HK4.out)).mono ?_
              rintro e w' ⟨rfl, rfl⟩
              go_wp2
              go_roundg (n - (m + 1))
              case rel => exact ⟨m + 1, Nat.le_refl _, by go_num, by omega, ⟨s.1, rfl, .inr ⟨s, by simpa using HSK.out, rfl⟩⟩, HQ4.out, HQ24.out, HK4.out⟩
              case measure => omega
            · have hd0 : decide (0 < m) = true := by simp; omega
              have hd1 : decide (s.1 < la) = false := by simpa using h0
              have hH := HHT.out
              go_wp2_with fail
              refine (count_any _ xs s.1 _ (by rw [HXN.out]; have := HN.out; omega) (HXS.out.kept HK4.out)).mono ?_
              rintro e w' ⟨rfl, rfl⟩
              go_wp2
              go_roundg (n - (m + 1))
              case rel => exact ⟨m + 1, Nat.le_refl _, by go_num, by omega, ⟨s.1, rfl, .inr ⟨s, by simpa using HSK.out, rfl⟩⟩, HQ4.out, HQ24.out, HK4.out⟩
              case measure => omega
          · have hlt' : decide (0 < S1.length - m) = false := by simp; have := HS1l.out; omega
            obtain rfl : m = n := by omega
            go_wp2_with fail
            have hn0 : (wr.alloc (.cells #[.int .i64 0] 3)).heap[wr.heap.size]? = some (.cells #[.int .i64 0] 3 (0, 0)) := blk_new _ _
            have hk0 := HK.out.alloc (.cells #[.int .i64 0] 3)
            have hq0 := HQ2.out.kept ((Keeps.refl [] wr).alloc (.cells #[.int .i64 0] 3)) (by simp)
            have hcF : ∀ g ∈ F2, g < wr.heap.size := HQ2.out.lt
            obtain ⟨c, hc⟩ : ∃ c, c = wr.heap.size := ⟨_, rfl⟩
            have hwc : w.heap.size ≤ c := by rw [hc]; exact HK.out.size
            rw [← hc] at hn0 hcF ⊢
            clear hc
            generalize (wr.alloc (.cells #[.int .i64 0] 3)) = w5 at hn0 hk0 hq0 ⊢
            have HN0 := Lib.hid hn0
            have HK0 := Lib.hid hk0
            have HQ0 := Lib.hid hq0
            have HCF := Lib.hid hcF
            clear hn0 hk0 hq0 hcF HQ1 HQ2 HLA HK
            go_loopg [14] (m) (fun gh kv wr => ∃ k : Nat, m - k ≤ gh ∧ kv = .int .i64 k ∧ k ≤ m ∧ wr.heap[c]? = some (.cells #[.int .i64 (IntKind.i64.wrap ((xs.take k).sum))] 3 (0, 0)) ∧ HS wr b2 F2 i (pour keyS 0 [] ss) ∧ Keeps [] w wr)
            case atStart => exact ⟨0, by omega, rfl, by omega, by simpa [show IntKind.i64.wrap 0 = 0 from by decide] using HN0.out, HQ0.out, HK0.out⟩
            case round =>
              obtain ⟨k, hgk, rfl, hkm, hcb, hq2, hK⟩ := hrel
              have hk60 : (k : Int) ≤ 60 := by omega
              have HC := Lib.hid hcb
              have HQ2 := Lib.hid hq2
              have HK := Lib.hid hK
              have cc := cell_blk hcb 0
              have fc := free_blk hcb 0
              clear hcb hq2 hK
              by_cases hlt2 : k < m
              · obtain ⟨x, hx⟩ : ∃ x, xs[k]? = some x := ⟨xs[k]'(by have := HXN.out; omega), by simp⟩
                obtain ⟨b0, o0, ha, hcr⟩ := (HXS.out.kept HK.out).at hx
                subst ha
                have HX := Lib.hid hx
                clear hx
                have hlt3 : decide (k < m) = true := by simpa using hlt2
                have hlt4 : (k : Int) < (m : Int) := by omega
                go_wp2_with fail
                go_still_tail 6, (by kernel_rfl)
                refine name_drew_list (w := wr) ?_
                rintro w6 K6 -
                have hc6 := K6.blk HC.out (by simp)
                have f6 := free_blk hc6 0
                have c6 := cell_blk hc6 0
                have HC6 := Lib.hid hc6
                have hsum : IntKind.i64.wrap (IntKind.i64.wrap (xs.take k).sum + x) = IntKind.i64.wrap (xs.take (k + 1)).sum := by
                  rw [wrap64_add, List.take_add_one, HX.out]; simp
                have kk : Keeps [c] wr (w6.setCell ⟨c, 0, none⟩ (.int .i64 (IntKind.i64.wrap (xs.take (k + 1)).sum))) := (K6.mono (by simp)).setCell c 0 _ (.inl (by simp))
                have HKK := Lib.hid kk
                clear hc6 kk cc fc
                go_wp2
                rw [show RowKit.wrap64 (xs.take (k + 1)).sum = IntKind.i64.wrap (xs.take (k + 1)).sum from by simp [RowKit.wrap64, IntKind.wrap_i64]]
                go_roundg (m - (k + 1))
                case rel => exact ⟨k + 1, Nat.le_refl _, by go_num, by omega, by have := blk_set_same HC6.out 0 (.int .i64 (IntKind.i64.wrap (xs.take (k + 1)).sum)); simpa using this, HQ2.out.kept HKK.out (by intro g hg hg2; simp at hg; subst hg; have := HCF.out g hg2; omega), HK.out.andThen HKK.out (by intro g hg; simp at hg; subst hg; exact .inr hwc)⟩
                case measure => omega
              · have hlt3 : decide (k < m) = false := by simpa using hlt2
                obtain rfl : k = m := by omega
                have hsx : (xs.take k).sum = xs.sum := by rw [List.take_of_length_le (by have := HXN.out; omega)]
                have hc9 := HC.out
                rw [hsx] at hc9
                have HC := Lib.hid hc9
                clear hc9 hsx cc fc
                go_wp2_with fail
                refine (newI _ xs _ (by rw [HXN.out]; have := HN.out; omega) (HXS.out.kept HK.out)).mono ?_
                rintro e w7 ⟨F3, rfl, q3, K7, hF3⟩
                rw [HXN.out, ← HS1.out] at q3
                have HK7 := Lib.hid (HK.out.trans K7)
                have HC7 := Lib.hid (K7.blk HC.out (by simp))
                have HQ7 := Lib.hid (HQ2.out.kept K7 (by simp))
                have hcr : c < wr.heap.size := blk_lt HC.out
                have hb2r : ∀ g ∈ F2, g < wr.heap.size := HQ2.out.lt
                have HF3 := Lib.hid hF3
                have HQ3 := Lib.hid q3
                have hkr := HK.out.size
                obtain ⟨b3, hb3⟩ : ∃ b, b = wr.heap.size := ⟨_, rfl⟩
                rw [← hb3] at hcr hb2r HF3 HQ3 hkr ⊢
                have HB2R := Lib.hid hb2r
                clear q3 K7 hF3 HK HC HQ2 hb3 hb2r HQ0 HK0 HN0
                go_wp2_with fail
                refine (drainI w7 _).mono ?_
                rintro e w8 ⟨rfl, rfl⟩
                go_wp2_with fail
                have hF3l := HQ3.out.lt
                have K9 : Keeps [] w (w7.alloc (.cells #[.pointer (some ⟨b3, 0, none⟩)] 25)) := HK7.out.alloc _
                have q9 : HI (w7.alloc (.cells #[.pointer (some ⟨b3, 0, none⟩)] 25)) b3 F3 k S1 := HQ3.out.kept ((Keeps.refl [] w7).alloc _) (by simp)
                have p9 : HS (w7.alloc (.cells #[.pointer (some ⟨b3, 0, none⟩)] 25)) b2 F2 i (pour keyS 0 [] ss) := HQ7.out.kept ((Keeps.refl [] w7).alloc _) (by simp)
                have x9 : (w7.alloc (.cells #[.pointer (some ⟨b3, 0, none⟩)] 25)).heap[w7.heap.size]? = some (.cells #[.pointer (some ⟨b3, 0, none⟩)] 25 (0, 0)) := blk_new _ _
                have c9 : (w7.alloc (.cells #[.pointer (some ⟨b3, 0, none⟩)] 25)).heap[c]? = some (.cells #[.int .i64 (IntKind.i64.wrap xs.sum)] 3 (0, 0)) := blk_alloc HC7.out _
                have z9 : (w7.alloc (.cells #[.pointer (some ⟨b3, 0, none⟩)] 25)).heap.size = w7.heap.size + 1 := by simp
                obtain ⟨X, hX⟩ : ∃ X, X = w7.heap.size := ⟨_, rfl⟩
                have hcX : c < X := by rw [hX]; exact blk_lt HC7.out
                have hwX : w.heap.size ≤ X := by rw [hX]; exact HK7.out.size
                rw [← hX] at x9 z9 hF3l ⊢
                have hb3X := hF3l b3 HQ3.out.mem
                generalize (w7.alloc (.cells #[.pointer (some ⟨b3, 0, none⟩)] 25)) = w8 at K9 q9 p9 x9 c9 z9 ⊢
                clear hX
                have hcF3 : c ∉ F3 := fun h => by have := HF3.out c h; omega
                have hXF3 : X ∉ F3 := fun h => by have := hF3l X h; omega
                have hF23 : ∀ g ∈ F3, g ∉ F2 := fun g hg hg2 => by have := HF3.out g hg; have := HB2R.out g hg2; omega
                have hcF2 : c ∉ F2 := fun h => by have := HCF.out c h; omega
                have hwF3 : ∀ g ∈ F3, w.heap.size ≤ g := fun g hg => by have := HF3.out g hg; omega
                refine wp_over (gf := 37) rfl (enters_of Try.func37 (by kernel_rfl) rfl) (drainI_over 8 (by decide) X _ F3 _ _ w8 q9 (by rw [HS1l.out]; omega) hXF3 x9) (fun _ => rfl)
                  same_t (fun W l o hl => same_put (w := w8) (by simp; exact ⟨by omega, fun g hg => by have := hF3l g hg; omega⟩) W l o hl)
                  (fun A B g o hR hg ho _ => hR.blk ho (fun h => by have := hF3l g h; omega))
                  (fun s A B row hs hg hr => by obtain ⟨k, h1, h2, h3⟩ := hs; exact ⟨k, h1, h2, heap_survive hg hr h3⟩)
                  (fun s A B row hs hg hr => ⟨hs.1, heap_survive hg hr hs.2⟩)
                  (fun pre W => Keeps [] w W ∧ W.heap[c]? = some (.cells #[.int .i64 (IntKind.i64.wrap (xs.sum - pre.sum))] 3 (0, 0)) ∧ HS W b2 F2 i (pour keyS 0 [] ss) ∧ X + 1 ≤ W.heap.size) (fun _ _ _ => False)
                  (fun s A B row hs hg hr => ⟨keeps_survive hg hr (by omega) hs.1, cells_survive hg hr hs.2.1, heap_survive hg hr hs.2.2.1, Nat.le_trans hs.2.2.2 hg.size⟩)
                  (fun s A B hs hR => ⟨hs.1.andThen hR (fun g hg => .inr (hwF3 g hg)), hR.blk hs.2.1 hcF3, hs.2.2.1.kept hR hF23, Nat.le_trans hs.2.2.2 hR.size⟩)
                  (fun _ _ _ _ _ hs _ _ => hs)
                  ⟨K9, by simpa using c9, p9, by omega⟩ ?_ ?_ ?_ ?_ ?_
                rotate_left 1
                focus
                  intro l x W K hK
                  gi_wp2
                  exact hK
                focus
                  rintro l pre x W ⟨hK, hc, hp, hXW⟩ hlen -
                  have cc := cell_blk hc 0
                  have fc := free_blk hc 0
                  have HC := Lib.hid hc
                  have HK := Lib.hid hK
                  have HP := Lib.hid hp
                  clear hc hK hp
                  have hsum : IntKind.i64.wrap (IntKind.i64.wrap (xs.sum - pre.sum) - x) = IntKind.i64.wrap (xs.sum - (pre ++ [x]).sum) := by
                    rw [wrap64_sub]; congr 1; simp; omega
                  have HSUM := Lib.hid hsum
                  clear hsum
                  gi_wp2
                  simp only [w64, HSUM.out]
                  have kk : Keeps [c] W (W.setCell ⟨c, 0, none⟩ (.int .i64 (IntKind.i64.wrap (xs.sum - (pre ++ [x]).sum)))) := (Keeps.refl _ _).setCell _ 0 _ (.inl (by simp))
                  have hcW := blk_lt HC.out
                  refine ⟨(others_keeps kk (by simp; exact ⟨_, _, _, _, HC.out⟩)).from _, kk.same ?_, HK.out.setCell _ 0 _ (.inr hwc), ?_, HP.out.kept kk (by intro g hg hg2; simp at hg; subst hg; exact hcF2 hg2), by simpa using hXW⟩
                  · intro g hg
                    simp only [List.mem_cons] at hg
                    rcases hg with rfl | hg
                    · exact ⟨by omega, by simp; omega⟩
                    · exact ⟨by have := hF3l g hg; omega, by simp; intro h; exact hcF3 (h ▸ hg)⟩
                  · have := blk_set_same HC.out 0 (.int .i64 (IntKind.i64.wrap (xs.sum - (pre ++ [x]).sum)))
                    simpa using this
                focus
                  rintro D ys W hD ⟨rfl, hq⟩ ⟨hK, hc, hp, -⟩ hDb
                  have hz : IntKind.i64.wrap (xs.sum - (S1.map Prod.fst).sum) = 0 := by
                    have h1 := perm_sum (pour_perm keyI xs 0 [])
                    rw [← HS1.out] at h1
                    rw [h1]; simp
                    decide
                  rw [hz] at hc
                  have cc := cell_blk hc 0
                  have HC := Lib.hid hc
                  have HK := Lib.hid hK
                  have HP := Lib.hid hp
                  have HD := Lib.hid hDb
                  clear hc hK hp hDb hq x9 c9 q9 p9 K9 hz
                  go_wp2_with fail
                  have hSl : (pour keyS 0 [] ss).length = n' := by rw [pour_length, HSN.out]; simp
                  have HSL := Lib.hid hSl
                  have HSO : Hid (Ord keyS (pour keyS 0 [] ss)) := Lib.hid HP.out.1
                  obtain ⟨S2, hS2⟩ : ∃ S, S = pour keyS 0 [] ss := ⟨_, rfl⟩
                  rw [← hS2] at HP HSL HSO
                  clear hSl hS2
                  go_loopg [17, 18] (n') (fun gh zv nv wr => ∃ m : Nat, n' - m ≤ gh ∧ nv = .int .i64 m ∧ m ≤ n' ∧ (∃ l : Nat, zv = .int .i64 (l : Int) ∧ (m = 0 ∧ l = 0 ∨ ∃ s, S2[m - 1]? = some s ∧ l = s.1.size)) ∧ HS wr b2 F2 i (S2.drop m) ∧ Keeps [] w wr ∧ wr.heap[c]? = some (.cells #[.int .i64 0] 3 (0, 0)) ∧ wr.heap[D]? = some (.deferred (some [])))
                  case atStart => exact ⟨0, by omega, rfl, by omega, ⟨0, rfl, .inl ⟨rfl, rfl⟩⟩, by simpa using HP.out, HK.out, HC.out, HD.out⟩
                  case round =>
                    obtain ⟨m, hgm, rfl, hmn, ⟨la, rfl, hla⟩, hq2, hk, hc, hd⟩ := hrel
                    have HQ2 := Lib.hid hq2
                    have HK := Lib.hid hk
                    have HC := Lib.hid hc
                    have HD := Lib.hid hd
                    have HLA := Lib.hid hla
                    have cc := cell_blk hc 0
                    have hm60 : (m : Int) ≤ 60 := by have := HN'.out; omega
                    clear hq2 hk hc hd hla
                    go_wp2_with fail
                    refine (lenS b2 F2 i _ _ HQ2.out).mono ?_
                    rintro e w' ⟨rfl, rfl⟩
                    by_cases hlt : m < n'
                    · obtain ⟨s, hs⟩ : ∃ s, S2[m]? = some s := ⟨S2[m]'(by have := HSL.out; omega), by simp⟩
                      have hd : S2.drop m = s :: S2.drop (m + 1) := by
                        rw [List.drop_eq_getElem_cons (by have := HSL.out; omega)]
                        congr 1
                        rw [List.getElem?_eq_getElem (by have := HSL.out; omega)] at hs
                        exact Option.some.inj hs
                      have hgt : decide (0 < S2.length - m) = true := by simp; have := HSL.out; omega
                      have hmn' : decide (m ≤ n') = true := by simpa using hmn
                      have hord : ¬ s.1.size < la := by
                        rcases HLA.out with ⟨h, h'⟩ | ⟨s0, h0, h1⟩
                        · omega
                        · by_cases hm0 : m = 0
                          · subst hm0
                            simp at h0
                            rw [hs] at h0
                            cases h0
                            omega
                          have h3 := (List.pairwise_iff_getElem.1 HSO.out) (m - 1) m (by have := HSL.out; omega) (by have := HSL.out; omega) (by omega)
                          rw [List.getElem?_eq_getElem (by have := HSL.out; omega)] at h0 hs
                          rw [Option.some.inj h0, Option.some.inj hs] at h3
                          unfold ahead at h3
                          simp only [keyS] at h3
                          omega
                      have hd1 : decide (s.1.size < la) = false := by simpa using hord
                      have hq3 := HQ2.out
                      rw [hd] at hq3
                      have HQ3 := Lib.hid hq3
                      have HSK := Lib.hid hs
                      clear hd hq3 hs
                      go_wp2_with fail
                      refine (popS_some b2 F2 i s (S2.drop (m + 1)) _ HQ3.out (by simp; have := HSL.out; have := HN'.out; omega)).mono ?_
                      rintro e w4 ⟨rfl, hq4, K4⟩
                      have HQ4 := Lib.hid hq4
                      have HK4 := Lib.hid (HK.out.andThen K4 (fun g hg => .inr (by have := HF2.out g hg; omega)))
                      have HC4 := Lib.hid (K4.blk HC.out hcF2)
                      have HD4 := Lib.hid (K4.blk HD.out (fun h => by have := HB2R.out D h; omega))
                      clear hq4 K4 cc
                      go_wp2
                      go_roundg (n' - (m + 1))
                      case rel => exact ⟨m + 1, Nat.le_refl _, by go_num, by omega, ⟨s.1.size, rfl, .inr ⟨s, by simpa using HSK.out, rfl⟩⟩, HQ4.out, HK4.out, HC4.out, HD4.out⟩
                      case measure => omega
                    · have hlt' : decide (0 < S2.length - m) = false := by simp; have := HSL.out; omega
                      obtain rfl : m = n' := by omega
                      go_wp2
                      refine ⟨by simp, .inl ⟨_, _, rfl, run_takeDeferred HD.out, ?_⟩⟩
                      refine ⟨.bool true, ?_, rfl, ?_⟩
                      · simp [results, Try.results3, go_sem]
                      · exact keeps_put HK.out _ (by omega)
                focus
                  rintro D c pre W _ h
                  exact h.elim
end Go.Proofs.Ytlcbcagbiiachaa
