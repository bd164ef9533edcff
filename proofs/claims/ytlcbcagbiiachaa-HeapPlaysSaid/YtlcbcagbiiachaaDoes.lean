/- does: an act is done with both. -/
import Derived.Test.YtlcbcagbiiachaaEach
import Derived.Test.YtlcbcagbiiachaaSorted
import Derived.Test.YtlcbcagbiiachaaLeast
import Derived.Shelf.RegionOpen
import Derived.RangeFuncCalls
namespace Go.Proofs.Ytlcbcagbiiachaa
open Go.RowKit Go.Shelf
attribute [local go_sem] Oper.semAt_some

/-- Both heaps hold the same. -/
def Both (w : World) (b m : Nat) (F G : List Nat) (came : Nat) (S : List ((Int × Int) × Nat)) : Prop := HT w b F came S ∧ MH w m G (S.map Prod.fst) ∧ m ∉ F ∧ (∀ g ∈ G, g ∉ F) ∧ ∀ g ∈ G, g < w.heap.size
theorem MH.filter {w : World} {m : Nat} {G : List Nat} {L : List (Int × Int)} (h : MH w m G L) (hL : L ≠ []) : MH w m (G.filter fun k => decide (k < w.heap.size)) L := by
  obtain ⟨A, c, h1, h2, h3, h4, h5⟩ := h
  refine ⟨A, c, h1, h2, fun hf => h3 (List.mem_filter.1 hf).1, h4, fun a ha => ?_⟩
  obtain ⟨g, o, rfl, q1, q2, q3⟩ := h5 a ha
  exact ⟨g, o, rfl, List.mem_filter.2 ⟨q1, decide_eq_true (q2 hL)⟩, q2, q3⟩
theorem cell_has {w : World} {g o : Nat} {v : Value} (h : w.cell? ⟨g, o, none⟩ = some v) : ∃ cs T fr, w.heap[g]? = some (.cells cs T fr) := by
  unfold World.cell? at h
  cases hb : w.heap[g]? with
  | none => simp [hb] at h
  | some b => cases b <;> simp [hb] at h ⊢
theorem MH.survive {W W' : World} {row : Option Nat} (hg : W.grownBy W' row) {B : Nat} (hr : ∀ r, row = some r → B ≤ r ∧ ∃ o : Obj, W.heap[r]? = some o ∧ o.isCells = false) {m : Nat} {G : List Nat} {L : List (Int × Int)} (h : MH W m G L) : MH W' m G L := by
  obtain ⟨A, c, h1, h2, h3, h4, h5⟩ := h
  refine ⟨A, c, cells_survive hg hr h1, h2, h3, h4, fun a ha => ?_⟩
  obtain ⟨g, o, rfl, h6, h7, h8⟩ := h5 a ha
  refine ⟨g, o, rfl, h6, fun hl => Nat.lt_of_lt_of_le (h7 hl) hg.size, fun i x hx => ?_⟩
  have h9 := h8 i x hx
  obtain ⟨cs, T, fr, hb⟩ := cell_has h9.1
  have hb' := cells_survive hg hr hb
  rw [cell_blk hb, cell_blk hb] at h9
  rw [cell_blk hb', cell_blk hb']
  exact h9
theorem MH.put {W : World} {m : Nat} {G : List Nat} {L : List (Int × Int)} {D : Nat} {o o' : Obj} (h : MH W m G L) (hD : W.heap[D]? = some o) (ho : o.isCells = false) : MH (W.putObj D o') m G L :=
  MH.survive (grownBy_putObj' W D o') (B := 0) (fun r e => by cases e; exact ⟨Nat.zero_le _, o, hD, ho⟩) h
theorem drop_head {S : List ((Int × Int) × Nat)} {pre : List (Int × Int)} {x : Int × Int} {k : Nat} (hk : k < S.length) (h : pre ++ [x] = (S.map Prod.fst).take (k + 1)) :
    pre.length = k ∧ (S.drop pre.length).map Prod.fst = x :: (S.drop (pre.length + 1)).map Prod.fst := by
  have hl : pre.length = k := by
    have := congrArg List.length h
    simp at this; omega
  refine ⟨hl, ?_⟩
  have hk' : pre.length < S.length := by omega
  rw [List.drop_eq_getElem_cons hk', List.map_cons]
  congr 1
  have h2 := congrArg (fun l => l[pre.length]?) h
  simp only [List.getElem?_append_right (Nat.le_refl _), Nat.sub_self, List.getElem?_cons_zero] at h2
  rw [List.getElem?_take_of_lt (by omega), List.getElem?_map, List.getElem?_eq_getElem hk'] at h2
  simpa using h2.symm
theorem HC.put {W : World} {b : Nat} {F : List Nat} {cv : Value} {S : List ((Int × Int) × Nat)} {D : Nat} {o o' : Obj} (h : HC W b F cv S) (hD : W.heap[D]? = some o) (ho : o.isCells = false) : HC (W.putObj D o') b F cv S :=
  hc_survive (grownBy_putObj' W D o') (B := 0) (fun r e => by cases e; exact ⟨Nat.zero_le _, o, hD, ho⟩) h
def DoesPost (b m : Nat) (F G : List Nat) (came : Nat) (S : List ((Int × Int) × Nat)) (w : World) (e : Ending) (w' : World) : Prop :=
  e = .returned (.bool true) ∧ ∃ (F' G' : List Nat) (came' : Nat) (S' : List ((Int × Int) × Nat)), Both w' b m F' G' came' S' ∧ came' ≤ came + 1 ∧ S'.length ≤ S.length + 1 ∧ Keeps (m :: F) w w' ∧ (∀ k ∈ F', k ∈ F ∨ w.heap.size ≤ k) ∧ (∀ k ∈ G', k ∈ G ∨ w.heap.size ≤ k)

set_option maxHeartbeats 1000000 in
theorem does_any (b m : Nat) (F G : List Nat) (came : Nat) (S : List ((Int × Int) × Nat)) (kd key wh : Int) (w : World) (h : Both w b m F G came S) (hS : S.length ≤ 200) (hc : came ≤ 200)
    (_hkd : (Lit.int .i64 kd).wf = true) (_hkey : (Lit.int .i64 key).wf = true) :
    Calls Try.prog 29 #[.pointer (some ⟨b, 0, none⟩), .pointer (some ⟨m, 0, none⟩), .agg #[.int .i64 kd, .int .i64 key], .int .i64 wh] w (DoesPost b m F G came S w) := by
  obtain ⟨h1, h2, h3, h4, h5⟩ := h
  have HGL := Lib.hid h5
  obtain ⟨A, c, hmb, -⟩ := id h2
  have m0 := cell_blk hmb 0
  have hml := blk_lt hmb
  have m3 := cell_blk (blk_alloc (blk_alloc (blk_alloc hmb (.cells #[.pointer (some ⟨m, 0, none⟩)] 57)) (.cells #[.int .i64 kd, .int .i64 key] 62)) (.cells #[.bool false] 4)) 0
  have HM0 := Lib.hid hmb
  have H1 := Lib.hid h1
  have H2 := Lib.hid h2
  have HG := Lib.hid h4
  clear h1 h2 h4 h5 hmb
  refine (callsIn_wide (n := 9)).1 ?_
  refine callsIn_of_wp_marks Try.func29 rfl trivial ?_ rfl
  simp only [Try.ntmps29, List.size_toArray, List.length_cons, List.length_nil, Nat.reduceAdd, Nat.reduceSub, Array.replicate_succ, Array.replicate_zero, List.push_toArray, List.append_toArray, List.nil_append, List.cons_append]
  refine wpIn_wide.2 ?_
  go_wp2_with fail
  have K3 : Keeps [] w (((w.alloc (.cells #[.pointer (some ⟨m, 0, none⟩)] 57)).alloc (.cells #[.int .i64 kd, .int .i64 key] 62)).alloc (.cells #[.bool false] 4)) := (((Keeps.refl _ _).alloc _).alloc _).alloc _
  have p5 := blk_alloc (blk_alloc (blk_new w (.cells #[.pointer (some ⟨m, 0, none⟩)] 57)) (.cells #[.int .i64 kd, .int .i64 key] 62)) (.cells #[.bool false] 4)
  have p6 : (((w.alloc (.cells #[.pointer (some ⟨m, 0, none⟩)] 57)).alloc (.cells #[.int .i64 kd, .int .i64 key] 62)).alloc (.cells #[.bool false] 4)).heap[w.heap.size + 1]? = some (.cells #[.int .i64 kd, .int .i64 key] 62 (0, 0)) := blk_alloc (by simpa using blk_new (w.alloc _) _) _
  have p8 : (((w.alloc (.cells #[.pointer (some ⟨m, 0, none⟩)] 57)).alloc (.cells #[.int .i64 kd, .int .i64 key] 62)).alloc (.cells #[.bool false] 4)).heap[w.heap.size + 1 + 1]? = some (.cells #[.bool false] 4 (0, 0)) := by simpa using blk_new ((w.alloc _).alloc _) _
  obtain ⟨n, hn⟩ : ∃ n, n = w.heap.size := ⟨_, rfl⟩
  rw [← hn] at p5 p6 p8 ⊢
  have HN := Lib.hid hn
  have HH1 := Lib.hid (H1.out.kept K3 (by simp))
  have HH2 := Lib.hid (H2.out.kept K3 (by simp) (by simp))
  have hlt1 := Lib.hid H1.out.lt
  have HP5 := Lib.hid p5
  have HP6 := Lib.hid p6
  have HP8 := Lib.hid p8
  have HK3 := Lib.hid K3
  clear hn m0 m3 p5 p6 p8 K3 H1 H2
  generalize (((w.alloc (.cells #[.pointer (some ⟨m, 0, none⟩)] 57)).alloc (.cells #[.int .i64 kd, .int .i64 key] 62)).alloc (.cells #[.bool false] 4)) = w1 at HP5 HP6 HP8 HK3 HH1 HH2 ⊢
  refine (rest_any kd 5 _ (by omega) (by omega)).mono ?_
  rintro e w' ⟨rfl, rfl⟩
  have hr0 := Int.emod_nonneg kd (show (5 : Int) ≠ 0 by omega)
  have hr5 := Int.emod_lt_of_pos kd (show (0 : Int) < 5 by omega)
  generalize kd % 5 = r at hr0 hr5 ⊢
  have q0 := cell_blk HP6.out 1
  have q1 := cell_blk HP5.out 0
  by_cases h2 : r < 3
  · have hr : r = 0 ∨ r = 1 ∨ r = 2 := by omega
    rcases hr with rfl | rfl | rfl
    all_goals
      go_wp2_with fail
      refine (rest_any key 6 _ (by omega) (by omega)).mono ?_
      rintro e w' ⟨rfl, rfl⟩
      generalize key % 6 = k6
      have kx := (Keeps.refl [] w1).alloc (.cells #[.int .i64 k6, .int .i64 wh] 45)
      have bx := blk_new w1 (.cells #[.int .i64 k6, .int .i64 wh] 45)
      have hq1 := Lib.hid (HH1.out.kept kx (by simp))
      have hm1 := Lib.hid (HH2.out.kept kx (by simp) (by simp))
      have b5 := kx.blk HP5.out (by simp)
      have b8 := kx.blk HP8.out (by simp)
      have hw1s := HK3.out.size
      go_wp2_with fail
      refine (pushT b F came S (k6, wh) _ hq1.out (by omega) (by omega)).mono ?_
      rintro e w2 ⟨rfl, F', hq2, K2, hF2⟩
      have hnF : ∀ k, n ≤ k → k ∉ F := fun k hk hf => by have := hlt1.out k hf; have := HN.out; omega
      have hm2 := Lib.hid (hm1.out.kept K2 h3 HG.out)
      have c5 := K2.blk b5 (hnF _ (Nat.le_refl _))
      have c8 := K2.blk b8 (hnF _ (by omega))
      have cx := K2.blk bx (hnF _ (by have := HN.out; omega))
      have HC8 := Lib.hid c8
      have HQ2 := Lib.hid hq2
      have HK2 := Lib.hid K2
      have HF2 := Lib.hid hF2
      have r5 := cell_blk c5 0
      have rx0 := cell_blk cx 0
      have rx1 := cell_blk cx 1
      have hn2 := blk_lt c8
      clear hq2 K2 hF2 c5 c8 cx b5 b8 bx kx hq1 hm1
      go_wp2_with fail
      refine (refPush m G (k6, wh) _ w2 hm2.out (by simp; omega)).mono ?_
      rintro e w3 ⟨rfl, G', hm3, K3, hG3⟩
      have hmn : n + 1 + 1 ≠ m := by have := HN.out; omega
      have d8 := K3.blk HC8.out (by simpa using hmn)
      have s8 := cell_blk d8 0
      have f8 := free_blk d8 0
      have HD8 := Lib.hid d8
      have HM3 := Lib.hid hm3
      have HK4 := Lib.hid K3
      have HG3 := Lib.hid hG3
      clear hm3 K3 hG3 d8 r5 rx0 rx1
      go_wp2
      have r8 := cell_blk (blk_set_same HD8.out 0 (.bool true)) 0
      simp at r8
      have hset : Keeps [n + 1 + 1] w3 (w3.setCell ⟨n + 1 + 1, 0, none⟩ (.bool true)) := (Keeps.refl _ _).setCell _ 0 _ (.inl (by simp))
      have hnw := HN.out
      have hlt2 := HQ2.out.lt
      have hF28 : n + 1 + 1 ∉ F' := fun hf => by
        rcases HF2.out _ hf with h | h
        · exact hnF _ (by omega) h
        · have := blk_lt HP8.out; simp at h; omega
      have hmF : m ∉ F' := fun hf => by
        rcases HF2.out _ hf with h | h
        · exact h3 h
        · simp at h; omega
      have hmap := ins_insR (k6, wh) came S HH1.out.1
      refine ⟨.bool true, by simp [results, Try.results29, go_sem, r8], rfl, F', G'.filter (fun k => decide (k < w3.heap.size)), came + 1, ins keyT ((k6, wh), came) S, ⟨(HQ2.out.kept HK4.out (by simpa using hmF)).kept hset (by simpa using hF28), ?_, hmF, ?_, ?_⟩, Nat.le_refl _, by rw [ins_length]; omega, ?_, ?_, ?_⟩
      · rw [hmap]
        exact (HM3.out.filter (by unfold insR; simp)).kept hset (by simpa using Ne.symm hmn) (fun g hg => by have := HG3.out g (List.mem_filter.1 hg).1; simp; omega)
      · intro g hg hf
        have := HG3.out g (List.mem_filter.1 hg).1
        have := hlt2 g hf
        omega
      · intro g hg
        have := of_decide_eq_true (List.mem_filter.1 hg).2
        simpa using this
      · refine Keeps.andThen (F := m :: F) ?_ hset (by simp; omega)
        refine Keeps.trans ?_ (HK4.out.mono (by simp))
        exact ((HK3.out.mono (by simp)).alloc _).trans (HK2.out.mono (fun k hk => .inl (by simp [hk])))
      · intro k hk
        rcases HF2.out k hk with h | h
        · exact .inl h
        · simp at h; exact .inr (by omega)
      · intro k hk
        have := HG3.out k (List.mem_filter.1 hk).1
        have := HK2.out.size
        simp at this
        exact .inr (by omega)
  · by_cases h3r : r = 3
    · subst h3r
      clear h2 hr0 hr5
      cases S with
      | nil =>
        go_wp2_with fail
        refine (popT_none b F came _ HH1.out).mono ?_
        rintro e w2 ⟨rfl, K2⟩
        have K2a := K2.alloc (.cells #[.int .i64 0, .int .i64 0] 45)
        have b5 := K2a.blk HP5.out (by simp)
        have b8 := K2a.blk HP8.out (by simp)
        have bx := blk_new w2 (.cells #[.int .i64 0, .int .i64 0] 45)
        have HM2 := Lib.hid (HH2.out.kept K2a (by simp) (by simp))
        have HQ2 := Lib.hid (HH1.out.kept K2a (by simp))
        go_wp2_with fail
        obtain ⟨nx, hnx⟩ : ∃ nx, nx = w2.heap.size := ⟨_, rfl⟩
        rw [← hnx] at bx ⊢
        clear hnx
        have HB5 := Lib.hid b5
        have HB8 := Lib.hid b8
        have HBX := Lib.hid bx
        have KA := Lib.hid (HK3.out.trans K2a)
        clear K2 K2a b5 b8 bx
        generalize w2.alloc (.cells #[.int .i64 0, .int .i64 0] 45) = w5 at HB5 HB8 HBX KA HM2 HQ2 ⊢
        have c5 := cell_blk HB5.out 0
        have cx0 := cell_blk HBX.out 0
        have cx1 := cell_blk HBX.out 1
        refine wp_norm ?_
        go_region_with (go_at_call 44; refine (refPop_none m G _ (HM2.out.kept ((Keeps.refl [] w5).drew) (by simp) (by simp))).mono ?_; rintro e w3 ⟨rfl, K3⟩; have d8 := (((Keeps.refl [] w5).drew).trans K3).blk HB8.out (by simp); have dx := (((Keeps.refl [] w5).drew).trans K3).blk HBX.out (by simp); have dx0 := cell_blk dx 0; have dx1 := cell_blk dx 1; have s8 := cell_blk d8 0; have f8 := free_blk d8 0; have HD8 := Lib.hid d8; clear d8 dx)
        all_goals
          go_wp2
          have r8 := cell_blk (blk_set_same HD8.out 0 (.bool true)) 0
          simp at r8
          have hset : Keeps [n + 1 + 1] w3 (w3.setCell ⟨n + 1 + 1, 0, none⟩ (.bool true)) := (Keeps.refl _ _).setCell _ 0 _ (.inl (by simp))
          have hnw := HN.out
          have KD : Keeps [] w5 w3 := ((Keeps.refl [] w5).drew).trans K3
          have hKD := KD.size
          have hKA := KA.out.size
          have hF8 : n + 1 + 1 ∉ F := fun hf => by have := hlt1.out _ hf; omega
          refine ⟨.bool true, by simp [results, Try.results29, go_sem, r8], rfl, F, G, came, [], ⟨(HQ2.out.kept KD (by simp)).kept hset (by simpa using hF8), (HM2.out.kept KD (by simp) (by simp)).kept hset (by simp; omega) (fun g hg => by have := HGL.out g hg; simp; omega), h3, HG.out, fun g hg => by have := HGL.out g hg; simp; omega⟩, by omega, by simp, ?_, fun k hk => .inl hk, fun k hk => .inl hk⟩
          exact (((KA.out.trans KD).mono (by simp)).andThen hset (by simp; omega))
      | cons s S2 =>
        have hn1 : ((S2.length : Int) + 1) > 0 := by omega
        have hS2 : S2.length ≤ 200 := by simp at hS; omega
        go_wp2_with fail
        refine (popT_some b F came s S2 _ HH1.out (by omega)).mono ?_
        rintro e w2 ⟨rfl, hq2, K2⟩
        have hnF : ∀ k, n ≤ k → k ∉ F := fun k hk hf => by have := hlt1.out k hf; have := HN.out; omega
        have K2a := K2.alloc (.cells #[.int .i64 s.1.1, .int .i64 s.1.2] 45)
        have b5 := K2a.blk HP5.out (hnF _ (Nat.le_refl _))
        have b8 := K2a.blk HP8.out (hnF _ (by omega))
        have bx := blk_new w2 (.cells #[.int .i64 s.1.1, .int .i64 s.1.2] 45)
        have HM2 := Lib.hid (HH2.out.kept K2a h3 HG.out)
        have HQ2 := Lib.hid (hq2.kept ((Keeps.refl [] w2).alloc (.cells #[.int .i64 s.1.1, .int .i64 s.1.2] 45)) (by simp))
        go_wp2_with fail
        obtain ⟨nx, hnx⟩ : ∃ nx, nx = w2.heap.size := ⟨_, rfl⟩
        rw [← hnx] at bx ⊢
        have hnxm := Lib.hid (show nx ≠ m by have := K2.size; have := HK3.out.size; omega)
        clear hnx
        have HB5 := Lib.hid b5
        have HB8 := Lib.hid b8
        have HBX := Lib.hid bx
        have KA := Lib.hid ((HK3.out.mono (G := m :: F) (by simp)).trans (K2a.mono (fun k hk => .inl (by simp [hk]))))
        clear K2 K2a b5 b8 bx hq2
        generalize w2.alloc (.cells #[.int .i64 s.1.1, .int .i64 s.1.2] 45) = w5 at HB5 HB8 HBX KA HM2 HQ2 ⊢
        have c5 := cell_blk HB5.out 0
        have cx0 := cell_blk HBX.out 0
        have cx1 := cell_blk HBX.out 1
        refine wp_norm ?_
        go_region_with (go_at_call 44; refine (refPop_some m G s.1 (S2.map Prod.fst) _ (HM2.out.kept ((Keeps.refl [] w5).drew) (by simp) (by simp))).mono ?_; rintro e w3 ⟨rfl, hm3, K3⟩; have d8 := ((((Keeps.refl [] w5).drew).mono (G := [m]) (by simp)).trans K3).blk HB8.out (by simp; have := HN.out; omega); have dx := ((((Keeps.refl [] w5).drew).mono (G := [m]) (by simp)).trans K3).blk HBX.out (by simp; have := hnxm.out; omega); have dx0 := cell_blk dx 0; have dx1 := cell_blk dx 1; have s8 := cell_blk d8 0; have f8 := free_blk d8 0; have HD8 := Lib.hid d8; clear d8 dx)
        all_goals
          go_wp2
          have r8 := cell_blk (blk_set_same HD8.out 0 (.bool true)) 0
          simp at r8
          have hset : Keeps [n + 1 + 1] w3 (w3.setCell ⟨n + 1 + 1, 0, none⟩ (.bool true)) := (Keeps.refl _ _).setCell _ 0 _ (.inl (by simp))
          have hnw := HN.out
          have KD : Keeps [m] w5 w3 := (((Keeps.refl [] w5).drew).mono (G := [m]) (by simp)).trans K3
          have hKD := KD.size
          have hKA := KA.out.size
          have hF8 : n + 1 + 1 ∉ F := fun hf => by have := hlt1.out _ hf; omega
          refine ⟨.bool true, by simp [results, Try.results29, go_sem, r8], rfl, F, G, came, S2, ⟨(HQ2.out.kept KD (by simpa using h3)).kept hset (by simpa using hF8), hm3.kept hset (by simp; omega) (fun g hg => by have := HGL.out g hg; simp; omega), h3, HG.out, fun g hg => by have := HGL.out g hg; simp; omega⟩, by omega, by simp; omega, ?_, fun k hk => .inl hk, fun k hk => .inl hk⟩
          exact ((KA.out.trans (KD.mono (by simp))).andThen hset (by simp; omega))
    · obtain rfl : r = 4 := by omega
      clear h2 hr0 hr5 h3r
      have hfn : ∀ (v : Value) (W : World), (binOp .eql 87 (.func (.func 46) #[] #[v]) .nilFunc).run Try.prog W = .ok (.bool false) W := fun v W => by kernel_rfl
      go_wp2_with fail
      refine (drainT _ _).mono ?_
      rintro e w2 ⟨rfl, rfl⟩
      have kx := (Keeps.refl [] w1).alloc (.cells #[.pointer (some ⟨b, 0, none⟩)] 42)
      have b6 := kx.blk HP6.out (by simp)
      have q6 := cell_blk b6 1
      clear q0
      go_wp2_with fail
      refine (rest_any key 6 _ (by omega) (by omega)).mono ?_
      rintro e w' ⟨rfl, rfl⟩
      have hl0 := Int.emod_nonneg key (show (6 : Int) ≠ 0 by omega)
      have hl6 := Int.emod_lt_of_pos key (show (0 : Int) < 6 by omega)
      generalize key % 6 = left at hl0 hl6 ⊢
      have K4 : Keeps [] w1 ((w1.alloc (.cells #[.pointer (some ⟨b, 0, none⟩)] 42)).alloc (.cells #[.int .i64 left] 3)) := kx.alloc _
      have b8 := K4.blk HP8.out (by simp)
      have b5 := K4.blk HP5.out (by simp)
      have s8 := cell_blk b8 0
      have f8 := free_blk b8 0
      have s5 := cell_blk b5 0
      have HB8 := Lib.hid b8
      have HB5 := Lib.hid b5
      have HK4 := Lib.hid K4
      clear b8 b5 b6 q6 kx K4
      by_cases hl : left = 0
      · subst hl
        go_wp2
        have r8 := cell_blk (blk_set_same HB8.out 0 (.bool true)) 0
        simp at r8
        have hnw := HN.out
        have hKA := HK3.out.size
        have hF8 : n + 1 + 1 ∉ F := fun hf => by have := hlt1.out _ hf; omega
        have hn8 := blk_lt HP8.out
        have hset : Keeps [n + 1 + 1] ((w1.alloc (.cells #[.pointer (some ⟨b, 0, none⟩)] 42)).alloc (.cells #[.int .i64 0] 3)) (((w1.alloc (.cells #[.pointer (some ⟨b, 0, none⟩)] 42)).alloc (.cells #[.int .i64 0] 3)).setCell ⟨n + 1 + 1, 0, none⟩ (.bool true)) := (Keeps.refl _ _).setCell _ 0 _ (.inl (by simp))
        refine ⟨.bool true, by simp [results, Try.results29, go_sem, r8], rfl, F, G, came, S, ⟨(HH1.out.kept HK4.out (by simp)).kept hset (by simpa using hF8), (HH2.out.kept HK4.out (by simp) (by simp)).kept hset (by simp; omega) (fun g hg => by have := HGL.out g hg; simp; omega), h3, HG.out, fun g hg => by have := HGL.out g hg; simp; omega⟩, by omega, by omega, ?_, fun k hk => .inl hk, fun k hk => .inl hk⟩
        exact ((HK3.out.trans HK4.out).mono (by simp)).andThen hset (by simp; omega)
      · go_wp2_with fail
        have hq4 := (hc_of HH1.out).kept HK4.out (by simp)
        have hm4 := HH2.out.kept HK4.out (by simp) (by simp)
        have x4 : ((w1.alloc (.cells #[.pointer (some ⟨b, 0, none⟩)] 42)).alloc (.cells #[.int .i64 left] 3)).heap[w1.heap.size]? = some (.cells #[.pointer (some ⟨b, 0, none⟩)] 42 (0, 0)) := blk_alloc (blk_new w1 _) _
        have l4 : ((w1.alloc (.cells #[.pointer (some ⟨b, 0, none⟩)] 42)).alloc (.cells #[.int .i64 left] 3)).heap[w1.heap.size + 1]? = some (.cells #[.int .i64 left] 3 (0, 0)) := by simpa using blk_new (w1.alloc _) _
        have hn8 := blk_lt HP8.out
        have hKA := HK3.out.size
        have z4 : ((w1.alloc (.cells #[.pointer (some ⟨b, 0, none⟩)] 42)).alloc (.cells #[.int .i64 left] 3)).heap.size = w1.heap.size + 2 := by simp
        have K4 := (HK3.out.trans HK4.out).mono (G := m :: F) (by simp)
        have hlt4 := HH1.out.lt
        obtain ⟨Bx, hBx⟩ : ∃ Bx, Bx = w1.heap.size := ⟨_, rfl⟩
        rw [← hBx] at x4 l4 z4 hlt4 hn8 hKA ⊢
        have HBX := Lib.hid hBx
        clear hBx
        generalize ((w1.alloc (.cells #[.pointer (some ⟨b, 0, none⟩)] 42)).alloc (.cells #[.int .i64 left] 3)) = w4 at hq4 hm4 x4 l4 z4 K4 HB8 HB5 s8 f8 s5 ⊢
        have hBF : Bx ∉ F := fun hf => by have := hlt4 _ hf; omega
        have HL4 := Lib.hid hlt4
        refine wp_over2 (gf := 46) rfl (enters_of Try.func46 (by kernel_rfl) rfl) (drainC_over 8 (by decide) Bx b F _ S w4 hq4 (by omega) hBF x4) (fun _ => rfl)
          same_t (fun W l o hl => same_put (w := w4) (by intro k hk; simp at hk; rcases hk with rfl | hk; (· omega); (· have := HL4.out k hk; omega)) W l o hl)
          (fun A B k o hR hk ho _ => hR.blk ho (fun h => by have := HL4.out k h; omega))
          (fun s A B row hs hg hr => by obtain ⟨k, h1, h2, h3⟩ := hs; exact ⟨k, h1, h2, hc_survive hg hr h3⟩)
          (fun s A B row hs hg hr => ⟨hs.1, hc_survive hg hr hs.2⟩)
          (fun pre W => Keeps (m :: F) w W ∧ W.heap[n]? = some (.cells #[.pointer (some ⟨m, 0, none⟩)] 57 (0, 0)) ∧ W.heap[n + 1 + 1]? = some (.cells #[.bool false] 4 (0, 0)) ∧ (pre.length : Int) < left ∧ W.heap[Bx + 1]? = some (.cells #[.int .i64 (left - pre.length)] 3 (0, 0)) ∧ MH W m G ((S.drop pre.length).map Prod.fst))
          (fun c pre W => c = .exit 1 ∧ Keeps (m :: F) w W ∧ W.heap[n]? = some (.cells #[.pointer (some ⟨m, 0, none⟩)] 57 (0, 0)) ∧ W.heap[n + 1 + 1]? = some (.cells #[.bool false] 4 (0, 0)) ∧ W.heap[Bx + 1]? = some (.cells #[.int .i64 0] 3 (0, 0)) ∧ MH W m G ((S.drop pre.length).map Prod.fst) ∧ HC W b F (.int .u64 came) (S.drop pre.length))
          ?_ ?_ ?_ ?_ ?_ (fun x : Int × Int => .cells #[.int .i64 x.1, .int .i64 x.2] 45 (0, 0))
          (fun W o hl k hk => Below.heap_alloc _ _ _ (by simp at hk; rcases hk with rfl | hk; (· omega); (· have := HL4.out k hk; omega))) ?_ ?_ ?_ ?_
        · intro s A B row hs hg hr
          obtain ⟨q1, q2, q3, q4, q5, q6⟩ := hs
          exact ⟨keeps_survive hg hr (by have := K4.size; omega) q1, cells_survive hg hr q2, cells_survive hg hr q3, q4, cells_survive hg hr q5, MH.survive hg hr q6⟩
        · intro s A B hs hR
          obtain ⟨q1, q2, q3, q4, q5, q6⟩ := hs
          exact ⟨q1.andThen hR (fun g hg => .inl (by simp [hg])), hR.blk q2 (fun h => by have := hlt1.out _ h; have := HN.out; omega), hR.blk q3 (fun h => by have := hlt1.out _ h; have := HN.out; omega), q4, hR.blk q5 (fun h => by have := HL4.out _ h; omega), q6.kept hR h3 HG.out⟩
        · intro c s A B row hs hg hr
          obtain ⟨q0, q1, q2, q3, q5, q6, q7⟩ := hs
          exact ⟨q0, keeps_survive hg hr (by have := K4.size; omega) q1, cells_survive hg hr q2, cells_survive hg hr q3, cells_survive hg hr q5, MH.survive hg hr q6, hc_survive hg hr q7⟩
        · exact ⟨K4, HB5.out, HB8.out, by simp; omega, by simpa using l4, by simpa using hm4⟩
        rotate_left
        · intro l x p W K hp hK
          gi_wp2
          rw [← hp]
          exact hK
        · rintro l pre x p W ⟨hK, hn5, hn8', hlen, hlf, hm⟩ hlen2 ⟨k, hk, hpre, hq⟩ hpl hpb
          obtain ⟨hpk, hdx⟩ := drop_head hk hpre
          rw [hdx] at hm
          obtain ⟨R, hRdef⟩ : ∃ R, (S.drop (pre.length + 1)).map Prod.fst = R := ⟨_, rfl⟩
          rw [hRdef] at hm
          obtain ⟨A2, c2, hmb2, -⟩ := id hm
          have hq0 : (((x :: R).length : Int) == 0) = false := by simp; omega
          obtain ⟨q, hqd⟩ : ∃ q, (x :: R).length = q := ⟨_, rfl⟩
          rw [hqd] at hmb2 hq0
          have m0 := cell_blk hmb2 0
          have c5 := cell_blk hn5 0
          have hwf : -9223372036854775808 ≤ left - (pre.length : Int) - 1 ∧ left - (pre.length : Int) - 1 ≤ 9223372036854775807 := by omega
          have s14 := cell_blk hlf 0
          have f14 := free_blk hlf 0
          have x0 := cell_blk hpb 0
          have x1 := cell_blk hpb 1
          have HM := Lib.hid hm
          have HR := Lib.hid hRdef
          have HPK := Lib.hid hpk
          have HPRE := Lib.hid hpre
          have HK := Lib.hid hK
          have H5 := Lib.hid hn5
          have H8 := Lib.hid hn8'
          have HLF := Lib.hid hlf
          have HPB := Lib.hid hpb
          have HMB := Lib.hid hmb2
          have HQ := Lib.hid hq
          have hlW := blk_lt hlf
          have hlm := blk_lt hmb2
          have hmw := Lib.hid hml
          have hKs := Lib.hid hK.size
          have HZ4 := Lib.hid (And.intro z4 (And.intro hKA hn8))
          have hpm : p ≠ m := by omega
          have hlm2 : Bx + 1 ≠ m := by omega
          have h8m : n + 1 + 1 ≠ m := by have := HN.out; omega
          have h5m : n ≠ m := by have := HN.out; omega
          clear hm hRdef hpk hpre hdx hK hn5 hn8' hlf hpb hmb2 hqd hlW hlm hml hpl z4 hKA hn8 hq
          have hz1 : left - (pre.length : Int) = 1 ∨ 1 < left - (pre.length : Int) := by omega
          have h44 : Fence.wide.fn 44 := trivial
          have hmx : Try.prog.follows .mixedOrders = true := by kernel_rfl
          gi_wp2_with fail
          gi_region_with_o (gi_at_call 44; refine (CallsIn.inRound l (callsIn_wide.2 (refPop_some m G x R _ (HM.out.kept ((Keeps.refl [] W).drew) (by simp) (by simp))))).mono ?_; rintro e w3 ⟨rfl, hm3, K3⟩; have KD : Keeps [m] W w3 := (((Keeps.refl [] W).drew).mono (G := [m]) (by simp)).trans K3; have dx := KD.blk HPB.out (by simpa using hpm); have dl := KD.blk HLF.out (by simpa using hlm2); have d8 := KD.blk H8.out (by simpa using h8m); have d5 := KD.blk H5.out (by simpa using h5m); have dx0 := cell_blk dx 0; have dx1 := cell_blk dx 1; have s14 := cell_blk dl 0; have f14 := free_blk dl 0; have HDL := Lib.hid dl; have HD8 := Lib.hid d8; have HD5 := Lib.hid d5; have HM3 := Lib.hid hm3; have HKD := Lib.hid KD; clear dx dl d8 d5 hm3 K3 KD)
          all_goals
            rcases hz1 with hz | hz
            · gi_wp2
              have hKS : Keeps [m, Bx + 1] W (w3.setCell ⟨Bx + 1, 0, none⟩ (.int .i64 0)) := (HKD.out.mono (by simp)).setCell _ 0 _ (.inl (by simp))
              have hl14 := blk_set_same HDL.out 0 (.int .i64 0)
              obtain ⟨z4, hKA, hn8⟩ := HZ4.out
              have hmw2 := hmw.out
              have hnw := HN.out
              have hpl : (pre ++ [x]).length = pre.length + 1 := by simp
              refine ⟨(others_keeps hKS (by intro q hq; simp at hq; rcases hq with rfl | rfl; (· exact ⟨_, _, _, HMB.out⟩); (· exact ⟨_, _, _, HLF.out⟩))).from _, rfl, HK.out.andThen hKS (by intro g hg; simp at hg; rcases hg with rfl | rfl; (· exact .inl (by simp)); (· exact .inr (by omega))), blk_set_other HD5.out _ _ (by simp; omega), blk_set_other HD8.out _ _ (by simp; omega), hl14, ?_, ?_⟩
              · rw [hpl, HR.out]
                exact HM3.out.kept ((Keeps.refl [Bx + 1] w3).setCell _ 0 _ (.inl (by simp))) (by simp; omega) (fun g hg => by have := HGL.out g hg; simp; omega)
              · rw [hpl, HPK.out]
                exact HQ.out.kept hKS (by intro g hg hf; have := HL4.out g hf; simp at hg; rcases hg with rfl | rfl; (· exact h3 hf); (· omega))
            · gi_wp2
              have hKS : Keeps [m, Bx + 1] W (w3.setCell ⟨Bx + 1, 0, none⟩ (.int .i64 (left - (pre.length : Int) - 1))) := (HKD.out.mono (by simp)).setCell _ 0 _ (.inl (by simp))
              have hl14 := blk_set_same HDL.out 0 (.int .i64 (left - (pre.length : Int) - 1))
              obtain ⟨z4, hKA, hn8⟩ := HZ4.out
              have hmw2 := hmw.out
              have hnw := HN.out
              have hlW := blk_lt HLF.out
              have hpl : (pre ++ [x]).length = pre.length + 1 := by simp
              refine ⟨(others_keeps hKS (by intro q hq; simp at hq; rcases hq with rfl | rfl; (· exact ⟨_, _, _, HMB.out⟩); (· exact ⟨_, _, _, HLF.out⟩))).from _, hKS.same ?_, HK.out.andThen hKS (by intro g hg; simp at hg; rcases hg with rfl | rfl; (· exact .inl (by simp)); (· exact .inr (by omega))), blk_set_other HD5.out _ _ (by simp; omega), blk_set_other HD8.out _ _ (by simp; omega), by rw [hpl]; omega, ?_, ?_⟩
              · intro q hq
                rcases List.mem_cons.1 hq with rfl | hq
                · exact ⟨by omega, by simp; omega⟩
                · have := HL4.out q hq
                  refine ⟨by omega, ?_⟩
                  intro hf
                  simp at hf
                  rcases hf with rfl | rfl
                  · exact h3 hq
                  · omega
              · rw [hpl, hl14]
                simp
                omega
              · rw [hpl, HR.out]
                exact HM3.out.kept ((Keeps.refl [Bx + 1] w3).setCell _ 0 _ (.inl (by simp))) (by simp; omega) (fun g hg => by have := HGL.out g hg; simp; omega)
        · rintro D xs W hD ⟨rfl, hq⟩ ⟨hK, hn5, hn8', hlen, hlf, hm⟩ hDb
          rw [show (S.drop (S.map Prod.fst).length).map Prod.fst = [] by simp] at hm
          obtain ⟨A2, c2, hmb2, -⟩ := id hm
          have m0 := cell_blk hmb2 0
          have c5 := cell_blk hn5 0
          have s14 := cell_blk hlf 0
          have s8 := cell_blk hn8' 0
          have f8 := free_blk hn8' 0
          have hz : ((left - ((S.map Prod.fst).length : Int)) == 0) = false := by rw [beq_eq_false_iff_ne]; omega
          generalize hv : left - ((S.map Prod.fst).length : Int) = lv at hz hlf s14
          have HQ := Lib.hid hq
          have HK := Lib.hid hK
          have HM := Lib.hid hm
          have HD := Lib.hid hDb
          have H8 := Lib.hid hn8'
          clear hv hq hK hm hDb hmb2 hn5 hn8' hlf
          go_wp2
          have hnD : n + 1 + 1 < D := by omega
          have hDw : w.heap.size ≤ D := by omega
          have hset : Keeps [n + 1 + 1] W (W.setCell ⟨n + 1 + 1, 0, none⟩ (.bool true)) := (Keeps.refl _ _).setCell _ 0 _ (.inl (by simp))
          have HD2 := blk_set_other HD.out ⟨n + 1 + 1, 0, none⟩ (.bool true) (show n + 1 + 1 ≠ D by omega)
          have b8' : ∀ o, ((W.setCell ⟨n + 1 + 1, 0, none⟩ (.bool true)).putObj D o).heap[n + 1 + 1]? = some (.cells #[.bool true] 4 (0, 0)) := fun o => blk_put_other (by simpa using blk_set_same H8.out 0 (.bool true)) o (by omega)
          have r8 : ∀ o, ((W.setCell ⟨n + 1 + 1, 0, none⟩ (.bool true)).putObj D o).cell? ⟨n + 1 + 1, 0, none⟩ = some (.bool true) := fun o => cell_blk (b8' o) 0
          have hnF8 : n + 1 + 1 ∉ F := fun hf => by have := hlt1.out _ hf; have := HN.out; omega
          have hnw := HN.out
          refine ⟨by simp, .inl ⟨_, _, rfl, run_takeDeferred HD2, ?_⟩⟩
          refine ⟨.bool true, by simp [results, Try.results29, go_sem, r8], rfl, ?_⟩
          refine ⟨F, G, came, [], ⟨ht_of ((HQ.out.kept hset (by simpa using hnF8)).put HD2 rfl) (by simp), (HM.out.kept hset (by simp; omega) (fun g hg => by have := HGL.out g hg; simp; omega)).put HD2 rfl, h3, HG.out, fun g hg => ?_⟩, by omega, by first | (simp; done) | (simp; omega), keeps_put (HK.out.andThen hset (by simp; omega)) _ hDw, fun k hk => .inl hk, fun k hk => .inl hk⟩
          have := HGL.out g hg
          have := HK.out.size
          have := hset.size
          simp at this ⊢
          omega
        · rintro D c pre W hD ⟨rfl, hK, hn5, hn8', hlf, hm, hq⟩ hDb
          have c5 := cell_blk hn5 0
          have s14 := cell_blk hlf 0
          have s8 := cell_blk hn8' 0
          have f8 := free_blk hn8' 0
          have HQ := Lib.hid hq
          have HK := Lib.hid hK
          have HM := Lib.hid hm
          have HD := Lib.hid hDb
          have H8 := Lib.hid hn8'
          clear hq hK hm hDb hn5 hn8' hlf
          go_wp2
          have hnD : n + 1 + 1 < D := by omega
          have hDw : w.heap.size ≤ D := by omega
          have hset : Keeps [n + 1 + 1] W (W.setCell ⟨n + 1 + 1, 0, none⟩ (.bool true)) := (Keeps.refl _ _).setCell _ 0 _ (.inl (by simp))
          have HD2 := blk_set_other HD.out ⟨n + 1 + 1, 0, none⟩ (.bool true) (show n + 1 + 1 ≠ D by omega)
          have b8' : ∀ o, ((W.setCell ⟨n + 1 + 1, 0, none⟩ (.bool true)).putObj D o).heap[n + 1 + 1]? = some (.cells #[.bool true] 4 (0, 0)) := fun o => blk_put_other (by simpa using blk_set_same H8.out 0 (.bool true)) o (by omega)
          have r8 : ∀ o, ((W.setCell ⟨n + 1 + 1, 0, none⟩ (.bool true)).putObj D o).cell? ⟨n + 1 + 1, 0, none⟩ = some (.bool true) := fun o => cell_blk (b8' o) 0
          have hnF8 : n + 1 + 1 ∉ F := fun hf => by have := hlt1.out _ hf; have := HN.out; omega
          have hnw := HN.out
          refine ⟨by simp, .inl ⟨_, _, rfl, run_takeDeferred HD2, ?_⟩⟩
          refine ⟨.bool true, by simp [results, Try.results29, go_sem, r8], rfl, ?_⟩
          refine ⟨F, G, came, S.drop pre.length, ⟨ht_of ((HQ.out.kept hset (by simpa using hnF8)).put HD2 rfl) (fun y hy => HH1.out.2.1 y (List.mem_of_mem_drop hy)), (HM.out.kept hset (by simp; omega) (fun g hg => by have := HGL.out g hg; simp; omega)).put HD2 rfl, h3, HG.out, fun g hg => ?_⟩, by omega, by first | (simp; done) | (simp; omega), keeps_put (HK.out.andThen hset (by simp; omega)) _ hDw, fun k hk => .inl hk, fun k hk => .inl hk⟩
          have := HGL.out g hg
          have := HK.out.size
          have := hset.size
          simp at this ⊢
          omega
end Go.Proofs.Ytlcbcagbiiachaa
