/- The document's own token at a place: the walk. -/
import Derived.Test.YtefdcjmfbjlinaaDoorLexer
import Derived.Deep.LoopGhost
import Derived.IntWalk
namespace Go.Proofs.YtefdcjmfbjlinaaDoor.Sc
open Go.RowKit Go.Shelf

theorem refLet_int (c : UInt8) : isLet c = ((decide (97 ≤ (c.toNat : Int)) && decide ((c.toNat : Int) ≤ 122)) || ((decide (65 ≤ (c.toNat : Int)) && decide ((c.toNat : Int) ≤ 90)) || ((c.toNat : Int) == 95))) := by
  have h : ∀ n : Fin 256, isLet (UInt8.ofNat n.val) = ((decide (97 ≤ ((UInt8.ofNat n.val).toNat : Int)) && decide (((UInt8.ofNat n.val).toNat : Int) ≤ 122)) || ((decide (65 ≤ ((UInt8.ofNat n.val).toNat : Int)) && decide (((UInt8.ofNat n.val).toNat : Int) ≤ 90)) || (((UInt8.ofNat n.val).toNat : Int) == 95))) := by decide +kernel
  have := h ⟨c.toNat, c.toNat_lt⟩
  simpa using this

theorem refLetter_any (c : UInt8) (w : World) : Calls Tryd.prog 77 #[.int .u8 (c.toNat : Int)] w fun e w' => e = .returned (.bool (isLet c)) ∧ w = w' := by
  go_enter Tryd.func77, Tryd.ntmps77
  go_wp2
  all_goals
    go_ret
    refine ⟨congrArg (fun b : Bool => Ending.returned (.bool b)) ?_, rfl⟩
    rw [refLet_int, Bool.eq_iff_iff]
    simp
    omega

theorem refDigit_any (c : UInt8) (w : World) : Calls Tryd.prog 78 #[.int .u8 (c.toNat : Int)] w fun e w' => e = .returned (.bool (isDig c)) ∧ w = w' := by
  go_enter Tryd.func78, Tryd.ntmps78
  go_wp2
  all_goals
    go_ret
    exact ⟨by rw [isDig_int]; (first | (simp [*]; done) | (simp [*]; omega)), rfl⟩

/-- Of no token the zero one. -/
def oneAt (a : Nat) (l : List UInt8) : Value := if (tkOf a l).kind = 0 then .agg #[.int .i64 0, .int .i64 0, .string ⟨#[]⟩, .int .i64 0] else tkV (tkOf a l)
theorem oneAt_kind {a : Nat} {c : UInt8} {l : List UInt8} {k n : Nat} (hk : knd c = k) (h0 : k ≠ 0) (hn : tln (c :: l) = n) : oneAt a (c :: l) = .agg #[.int .i64 (k : Nat), .int .i64 (a : Nat), .string ⟨((c :: l).take n).toArray⟩, .int .i64 ((if k = 2 then nm ((c :: l).take n) else 0 : Nat) : Nat)] := by
  have e : tkOf a (c :: l) = ⟨k, a, (c :: l).take n, if k = 2 then nm ((c :: l).take n) else 0⟩ := by
    simp only [tkOf, hk, hn]
  unfold oneAt tkV
  rw [e]
  simp only
  rw [if_neg h0]
theorem oneAt_none {a : Nat} {c : UInt8} {l : List UInt8} (hk : knd c = 0) : oneAt a (c :: l) = .agg #[.int .i64 0, .int .i64 0, .string ⟨#[]⟩, .int .i64 0] := by
  unfold oneAt
  rw [if_pos (by simp only [tkOf, hk])]
theorem mk_part (s : ByteArray) (a n : Nat) : s.extract a (a + n) = ⟨((s.data.toList.drop a).take n).toArray⟩ := by
  apply ByteArray.ext
  apply Array.toList_inj.1
  rw [Lib.extract_data]
  simp

/-- What lies in memory: the result, and the token that is made. -/
structure Two (w : World) (B a : Nat) (kd : Int) (nu : Int) (W : World) : Prop where
  keeps : Keeps [] w W
  r : W.heap[B]? = some (.cells #[.int .i64 0, .int .i64 0, .string ⟨#[]⟩, .int .i64 0] 69 (0, 0))
  x : W.heap[B + 1]? = some (.cells #[.int .i64 kd, .int .i64 a, .string ⟨#[]⟩, .int .i64 nu] 69 (0, 0))

theorem Two.setK {w W : World} {B a : Nat} {kd nu : Int} (h : Two w B a kd nu W) (hB : w.heap.size ≤ B) (k : Int) : Two w B a k nu (W.setCell ⟨B + 1, 0, none⟩ (.int .i64 k)) :=
  ⟨h.keeps.setCell _ 0 _ (.inr (by omega)), blk_set_other h.r _ _ (by simp), by simpa using blk_set_same h.x 0 (.int .i64 k)⟩
theorem Two.setN {w W : World} {B a : Nat} {kd nu : Int} (h : Two w B a kd nu W) (hB : w.heap.size ≤ B) (n : Int) : Two w B a kd n (W.setCell ⟨B + 1, 3, none⟩ (.int .i64 n)) :=
  ⟨h.keeps.setCell _ 3 _ (.inr (by omega)), blk_set_other h.r _ _ (by simp), by simpa using blk_set_same h.x 3 (.int .i64 n)⟩
theorem Two.drew {w W : World} {B a : Nat} {kd nu : Int} (h : Two w B a kd nu W) : Two w B a kd nu W.drew := ⟨h.keeps.drew, h.r, h.x⟩
theorem Two.kept {w W W' : World} {B a : Nat} {kd nu : Int} (h : Two w B a kd nu W) (k : Keeps [] W W') : Two w B a kd nu W' := ⟨h.keeps.trans k, k.blk h.r (by simp), k.blk h.x (by simp)⟩
theorem Two.facts {w W : World} {B a : Nat} {kd nu : Int} (h : Two w B a kd nu W) :
    (W.cell? ⟨B, 0, none⟩ = some (.int .i64 0) ∧ W.cell? ⟨B, 1, none⟩ = some (.int .i64 0) ∧ W.cell? ⟨B, 2, none⟩ = some (.string ⟨#[]⟩) ∧ W.cell? ⟨B, 3, none⟩ = some (.int .i64 0)) ∧
    (W.frozen? ⟨B, 0, none⟩ = false ∧ W.frozen? ⟨B, 1, none⟩ = false ∧ W.frozen? ⟨B, 2, none⟩ = false ∧ W.frozen? ⟨B, 3, none⟩ = false) ∧
    (W.cell? ⟨B + 1, 0, none⟩ = some (.int .i64 kd) ∧ W.cell? ⟨B + 1, 1, none⟩ = some (.int .i64 a) ∧ W.cell? ⟨B + 1, 2, none⟩ = some (.string ⟨#[]⟩) ∧ W.cell? ⟨B + 1, 3, none⟩ = some (.int .i64 nu)) ∧
    (W.frozen? ⟨B + 1, 0, none⟩ = false ∧ W.frozen? ⟨B + 1, 1, none⟩ = false ∧ W.frozen? ⟨B + 1, 2, none⟩ = false ∧ W.frozen? ⟨B + 1, 3, none⟩ = false) :=
  ⟨⟨cell_blk h.r 0, cell_blk h.r 1, cell_blk h.r 2, cell_blk h.r 3⟩, ⟨free_blk h.r 0, free_blk h.r 1, free_blk h.r 2, free_blk h.r 3⟩, ⟨cell_blk h.x 0, cell_blk h.x 1, cell_blk h.x 2, cell_blk h.x 3⟩, ⟨free_blk h.x 0, free_blk h.x 1, free_blk h.x 2, free_blk h.x 3⟩⟩

theorem Two.fin {w W : World} {B a : Nat} {kd nu : Int} (h : Two w B a kd nu W) (hB : w.heap.size ≤ B) (tx : Value) :
    (((((W.setCell ⟨B + 1, 2, none⟩ tx).setCell ⟨B, 0, none⟩ (.int .i64 kd)).setCell ⟨B, 1, none⟩ (.int .i64 a)).setCell ⟨B, 2, none⟩ tx).setCell ⟨B, 3, none⟩ (.int .i64 nu)).heap[B]? = some (.cells #[.int .i64 kd, .int .i64 a, tx, .int .i64 nu] 69 (0, 0)) ∧
    Keeps [] w (((((W.setCell ⟨B + 1, 2, none⟩ tx).setCell ⟨B, 0, none⟩ (.int .i64 kd)).setCell ⟨B, 1, none⟩ (.int .i64 a)).setCell ⟨B, 2, none⟩ tx).setCell ⟨B, 3, none⟩ (.int .i64 nu)) := by
  refine ⟨?_, ((((h.keeps.setCell _ 2 _ (.inr (by omega))).setCell B 0 _ (.inr hB)).setCell B 1 _ (.inr hB)).setCell B 2 _ (.inr hB)).setCell B 3 _ (.inr hB)⟩
  have := blk_set_same (blk_set_same (blk_set_same (blk_set_same (blk_set_other h.r ⟨B + 1, 2, none⟩ tx (by simp)) 0 (.int .i64 kd)) 1 (.int .i64 a)) 2 tx) 3 (.int .i64 nu)
  simpa using this

set_option maxHeartbeats 2000000 in
set_option maxRecDepth 100000 in
theorem refOne_any (s : ByteArray) (hs : s.size ≤ 9223372036854775807) (a : Nat) (ha : a < s.size) (w : World) :
    Calls Tryd.prog 70 #[.string s, .int .i64 (a : Int)] w fun e w' => e = .returned (oneAt a (s.data.toList.drop a)) ∧ Keeps [] w w' := by
  obtain ⟨c, l, hl⟩ : ∃ c l, s.data.toList.drop a = c :: l := ⟨s[a], s.data.toList.drop (a + 1), by rw [List.drop_eq_getElem_cons (by simpa using ha)]; rfl⟩
  have h0 : s[a] = c := by
    have := congrArg List.head? hl
    rw [List.head?_drop] at this
    simp [ha] at this
    exact this
  have hlen : (c :: l).length = s.size - a := by rw [← hl]; simp
  have H0 := Lib.hid h0
  have HL := Lib.hid (And.intro hl hlen)
  have ha' : (a : Int) < (s.size : Int) := by omega
  clear hl h0 hlen
  go_enter Tryd.func70, Tryd.ntmps70
  go_wp2_with fail
  have T0 : Two w w.heap.size a 0 0 ((w.alloc (.cells #[.int .i64 0, .int .i64 0, .string ⟨#[]⟩, .int .i64 0] 69)).alloc (.cells #[.int .i64 0, .int .i64 a, .string ⟨#[]⟩, .int .i64 0] 69)) :=
    ⟨((Keeps.refl _ _).alloc _).alloc _, blk_alloc (blk_new _ _) _, by simpa using blk_new (w.alloc _) _⟩
  obtain ⟨B, hB⟩ : ∃ B, B = w.heap.size := ⟨_, rfl⟩
  rw [← hB] at T0 ⊢
  have hB' : w.heap.size ≤ B := by omega
  clear hB
  generalize ((w.alloc (.cells #[.int .i64 0, .int .i64 0, .string ⟨#[]⟩, .int .i64 0] 69)).alloc (.cells #[.int .i64 0, .int .i64 a, .string ⟨#[]⟩, .int .i64 0] 69)) = w0 at T0 ⊢
  refine (refLetter_any s[a] _).mono ?_
  rintro e w' ⟨rfl, rfl⟩
  rw [H0.out]
  go_wp2_with fail
  refine (refDigit_any c _).mono ?_
  rintro e w' ⟨rfl, rfl⟩
  cases h1 : isLet c
  · have H1 := Lib.hid h1
    clear h1
    cases h2 : isDig c
    · have H2 := Lib.hid h2
      clear h2
      obtain ⟨⟨r0, r1, r2, r3⟩, ⟨e0, e1, e2, e3⟩, ⟨x0, x1, x2, x3⟩, ⟨f0, f1, f2, f3⟩⟩ := T0.facts
      have HT := Lib.hid T0
      clear T0
      by_cases h3 : c.toNat = 61
      · have t3 : ((c.toNat : Int) == 61) = true := by rw [beq_iff_eq]; omega
        have hv : oneAt a (s.data.toList.drop a) = .agg #[.int .i64 3, .int .i64 a, .string (s.extract a (a + 1)), .int .i64 0] := by
          rw [mk_part, HL.out.1]
          exact oneAt_kind (knd_eq H1.out H2.out h3) (by decide) (tln_one H1.out H2.out)
        have HV := Lib.hid hv
        have l1 : (a : Int) + 1 ≤ (s.size : Int) := by omega
        clear hv h3
        go_wp2
        obtain ⟨hf, hk⟩ := Two.fin (HT.out.setK hB' 3) hB' (.string (s.extract a (a + 1)))
        rw [HV.out]
        generalize ((((((w0.setCell ⟨B + 1, 0, none⟩ (.int .i64 3)).setCell ⟨B + 1, 2, none⟩ (.string (s.extract a (a + 1)))).setCell ⟨B, 0, none⟩ (.int .i64 3)).setCell ⟨B, 1, none⟩ (.int .i64 a)).setCell ⟨B, 2, none⟩ (.string (s.extract a (a + 1)))).setCell ⟨B, 3, none⟩ (.int .i64 0)) = W9 at hf hk ⊢
        have d0 : W9.cell? ⟨B, 0, none⟩ = some (.int .i64 3) := cell_blk hf 0
        have d1 : W9.cell? ⟨B, 1, none⟩ = some (.int .i64 a) := cell_blk hf 1
        have d2 : W9.cell? ⟨B, 2, none⟩ = some (.string (s.extract a (a + 1))) := cell_blk hf 2
        have d3 : W9.cell? ⟨B, 3, none⟩ = some (.int .i64 0) := cell_blk hf 3
        exact bodyPost_ret (v := .agg #[.int .i64 3, .int .i64 a, .string (s.extract a (a + 1)), .int .i64 0]) (by simp [results, Tryd.results70, go_sem, d0, d1, d2, d3]) rfl ⟨rfl, hk⟩
      · have t3 : ((c.toNat : Int) == 61) = false := by rw [beq_eq_false_iff_ne]; omega
        by_cases h4 : c.toNat = 10
        · have t4 : ((c.toNat : Int) == 10) = true := by rw [beq_iff_eq]; omega
          have hv : oneAt a (s.data.toList.drop a) = .agg #[.int .i64 4, .int .i64 a, .string (s.extract a (a + 1)), .int .i64 0] := by
            rw [mk_part, HL.out.1]
            exact oneAt_kind (knd_feed H1.out H2.out h3 h4) (by decide) (tln_one H1.out H2.out)
          have HV := Lib.hid hv
          have l1 : (a : Int) + 1 ≤ (s.size : Int) := by omega
          clear hv h3 h4
          go_wp2
          obtain ⟨hf, hk⟩ := Two.fin (HT.out.setK hB' 4) hB' (.string (s.extract a (a + 1)))
          rw [HV.out]
          generalize ((((((w0.setCell ⟨B + 1, 0, none⟩ (.int .i64 4)).setCell ⟨B + 1, 2, none⟩ (.string (s.extract a (a + 1)))).setCell ⟨B, 0, none⟩ (.int .i64 4)).setCell ⟨B, 1, none⟩ (.int .i64 a)).setCell ⟨B, 2, none⟩ (.string (s.extract a (a + 1)))).setCell ⟨B, 3, none⟩ (.int .i64 0)) = W9 at hf hk ⊢
          have d0 : W9.cell? ⟨B, 0, none⟩ = some (.int .i64 4) := cell_blk hf 0
          have d1 : W9.cell? ⟨B, 1, none⟩ = some (.int .i64 a) := cell_blk hf 1
          have d2 : W9.cell? ⟨B, 2, none⟩ = some (.string (s.extract a (a + 1))) := cell_blk hf 2
          have d3 : W9.cell? ⟨B, 3, none⟩ = some (.int .i64 0) := cell_blk hf 3
          exact bodyPost_ret (v := .agg #[.int .i64 4, .int .i64 a, .string (s.extract a (a + 1)), .int .i64 0]) (by simp [results, Tryd.results70, go_sem, d0, d1, d2, d3]) rfl ⟨rfl, hk⟩
        · have t4 : ((c.toNat : Int) == 10) = false := by rw [beq_eq_false_iff_ne]; omega
          have hv : oneAt a (s.data.toList.drop a) = .agg #[.int .i64 0, .int .i64 0, .string ⟨#[]⟩, .int .i64 0] := by
            rw [HL.out.1]
            exact oneAt_none (knd_none H1.out H2.out h3 h4)
          have HV := Lib.hid hv
          clear hv h3 h4
          go_wp2
          have hf := blk_set_same (blk_set_same (blk_set_same (blk_set_same HT.out.r 0 (.int .i64 0)) 1 (.int .i64 0)) 2 (.string ⟨#[]⟩)) 3 (.int .i64 0)
          have hk := (((HT.out.keeps.setCell B 0 (.int .i64 0) (.inr hB')).setCell B 1 (.int .i64 0) (.inr hB')).setCell B 2 (.string ⟨#[]⟩) (.inr hB')).setCell B 3 (.int .i64 0) (.inr hB')
          rw [HV.out]
          generalize ((((w0.setCell ⟨B, 0, none⟩ (.int .i64 0)).setCell ⟨B, 1, none⟩ (.int .i64 0)).setCell ⟨B, 2, none⟩ (.string ⟨#[]⟩)).setCell ⟨B, 3, none⟩ (.int .i64 0)) = W9 at hf hk ⊢
          simp only [List.setIfInBounds_toArray, List.set_cons_zero, List.set_cons_succ] at hf
          have d0 : W9.cell? ⟨B, 0, none⟩ = some (.int .i64 0) := cell_blk hf 0
          have d1 : W9.cell? ⟨B, 1, none⟩ = some (.int .i64 0) := cell_blk hf 1
          have d2 : W9.cell? ⟨B, 2, none⟩ = some (.string ⟨#[]⟩) := cell_blk hf 2
          have d3 : W9.cell? ⟨B, 3, none⟩ = some (.int .i64 0) := cell_blk hf 3
          exact bodyPost_ret (v := .agg #[.int .i64 0, .int .i64 0, .string ⟨#[]⟩, .int .i64 0]) (by simp [results, Tryd.results70, go_sem, d0, d1, d2, d3]) rfl ⟨rfl, hk⟩
    · have H2 := Lib.hid h2
      clear h2
      have HT := Lib.hid (T0.setK hB' 2)
      obtain ⟨⟨r0, r1, r2, r3⟩, ⟨e0, e1, e2, e3⟩, ⟨x0, x1, x2, x3⟩, ⟨f0, f1, f2, f3⟩⟩ := T0.facts
      clear T0
      go_wp2_with fail
      clear r0 r1 r2 r3 e0 e1 e2 e3 x0 x1 x2 x3 f0 f1 f2 f3
      generalize (w0.setCell ⟨B + 1, 0, none⟩ (.int .i64 2)) = w1 at HT ⊢
      have l0 : 1 ≤ (c :: l).length := by simp
      have hp0 : 1 + spn isDig ((c :: l).drop 1) = spn isDig (c :: l) := by
        rw [spn_cons, if_pos H2.out]; simp; omega
      go_loopg [6] ((c :: l).length) (fun gh ev wr => wr = w1 ∧ ∃ k : Nat, (c :: l).length - k ≤ gh ∧ 1 ≤ k ∧ k ≤ (c :: l).length ∧ ev = .int .i64 ((a : Int) + (k : Int)) ∧ k + spn isDig ((c :: l).drop k) = spn isDig (c :: l))
      case atStart => exact ⟨rfl, 1, by omega, by omega, l0, rfl, hp0⟩
      case round =>
        obtain ⟨rfl, k, hgh, hk1, hk, rfl, hr⟩ := hrel
        have HR := Lib.hid hr
        have hll := HL.out.2
        have hks : a + k ≤ s.size := by omega
        have HK := Lib.hid (And.intro hk hgh)
        clear hr hp0 hll hk l0 hgh
        by_cases hlt : a + k < s.size
        · have hlt' : (a : Int) + (k : Int) < (s.size : Int) := by omega
          have hB2 : k + 1 ≤ (c :: l).length := by have := HL.out.2; omega
          have HB2 := Lib.hid hB2
          obtain ⟨d, hd⟩ : ∃ d, (c :: l)[k]? = some d := ⟨_, List.getElem?_eq_getElem (by omega)⟩
          have hsd : s[a + k] = d := by
            have : s.data.toList[a + k]? = some d := by rw [← List.getElem?_drop, HL.out.1]; exact hd
            simp [hlt] at this
            exact this
          have HSD := Lib.hid hsd
          have HD := Lib.hid hd
          clear hd hB2 hsd
          go_wp2_with fail
          refine (refDigit_any s[a + k] _).mono ?_
          rintro e w' ⟨rfl, rfl⟩
          rw [HSD.out]
          cases g1 : isDig d
          · have HS := Lib.hid (spn_no HR.out HD.out g1)
            clear g1
            have hks' : (a : Int) + (k : Int) ≤ (s.size : Int) := by omega
            have hv : oneAt a (s.data.toList.drop a) = .agg #[.int .i64 2, .int .i64 a, .string (s.extract a (a + k)), .int .i64 (nm ((c :: l).take k))] := by
              rw [mk_part, HL.out.1]
              exact oneAt_kind (knd_dig H1.out H2.out) (by decide) (by rw [tln_dig H1.out H2.out, HS.out])
            have HV := Lib.hid hv
            have hall : ∀ d ∈ (c :: l).take k, isDig d = true := by rw [← HS.out]; exact take_all
            have HALL := Lib.hid hall
            obtain ⟨wo, rfl⟩ : ∃ wo : World, wo = wr := ⟨_, rfl⟩
            clear hv hall
            go_wp2_with fail
            go_loopg [10] (k) (fun gh iv wr => ∃ j : Nat, k - j ≤ gh ∧ j ≤ k ∧ iv = .int .i64 ((a : Int) + (j : Int)) ∧ Two w B a 2 (nm ((c :: l).take j) : Nat) wr)
            case atStart => exact ⟨0, by omega, by omega, by go_num, HT.out⟩
            case round =>
              obtain ⟨j, hgj, hj, rfl, hT⟩ := hrel
              have HGJ := Lib.hid hgj
              have hle := nm_le ((c :: l).take j)
              obtain ⟨⟨r0, r1, r2, r3⟩, ⟨e0, e1, e2, e3⟩, ⟨x0, x1, x2, x3⟩, ⟨f0, f1, f2, f3⟩⟩ := hT.facts
              have HTj := Lib.hid hT
              clear hT hgj
              by_cases hjk : j < k
              · have hjk' : (a : Int) + (j : Int) < (a : Int) + (k : Int) := by omega
                have hjs : a + j < s.size := by omega
                have hjs' : (a : Int) + (j : Int) < (s.size : Int) := by omega
                have h0j : 0 ≤ (a : Int) + (j : Int) := by omega
                have htj : ((a : Int) + (j : Int)).toNat = a + j := by omega
                obtain ⟨d, hd⟩ : ∃ d, (c :: l)[j]? = some d := ⟨_, List.getElem?_eq_getElem (by have := HK.out.1; omega)⟩
                have hsd : s[a + j] = d := by
                  have : s.data.toList[a + j]? = some d := by rw [← List.getElem?_drop, HL.out.1]; exact hd
                  simp [hjs] at this
                  exact this
                have hdd := HALL.out d (List.mem_of_getElem? (i := j) (by rw [List.getElem?_take, if_pos hjk]; exact hd))
                have hns : nm ((c :: l).take (j + 1)) = nmStep (nm ((c :: l).take j)) d := by rw [List.take_add_one, hd]; exact nm_snoc _ _
                unfold isDig at hdd
                simp at hdd
                have h48 : 48 ≤ (s[a + j].toNat : Int) := by rw [hsd]; omega
                have h57 : (s[a + j].toNat : Int) ≤ 57 := by rw [hsd]; omega
                have HNS := Lib.hid (And.intro hns (And.intro hsd hdd))
                clear hns hsd hdd hd
                generalize hN : nm ((c :: l).take j) = N at hle HNS HTj x3
                have HN := Lib.hid hN
                clear hN
                have m1 : IntKind.i64.wrap ((N : Int) * 10) = (N : Int) * 10 := IntWalk.i64_in _ (by omega)
                have m2 : IntKind.u8.wrap ((s[a + j].toNat : Int) - 48) = (s[a + j].toNat : Int) - 48 := IntWalk.u8_in _ (by omega)
                have m4 : IntKind.i64.wrap ((s[a + j].toNat : Int) - 48) = (s[a + j].toNat : Int) - 48 := IntWalk.i64_in _ (by omega)
                have m3 : IntKind.i64.wrap ((N : Int) * 10 + ((s[a + j].toNat : Int) - 48)) = (N : Int) * 10 + ((s[a + j].toNat : Int) - 48) := IntWalk.i64_in _ (by omega)
                go_wp2_with fail
                go_still_tail 11, (by kernel_rfl)
                refine name_drew_list (w := wr) ?_
                rintro W2 K2 -
                have HT2 := Lib.hid (HTj.out.kept K2)
                clear r0 r1 r2 r3 e0 e1 e2 e3 x0 x1 x2 x3 f0 f1 f2 f3 m1 m2 m3 m4 K2
                obtain ⟨-, -, ⟨x0, x1, x2, x3⟩, ⟨f0, f1, f2, f3⟩⟩ := HT2.out.facts
                have hval : ∀ V : Int, V = (if (1099511627776 : Int) < (N : Int) * 10 + ((s[a + j].toNat : Int) - 48) then 1099511627776 else (N : Int) * 10 + ((s[a + j].toNat : Int) - 48)) → V = (nm ((c :: l).take (j + 1)) : Nat) := by
                  rintro V rfl
                  rw [HNS.out.1, HNS.out.2.1]
                  have := HNS.out.2.2
                  unfold nmStep
                  split <;> omega
                have HVAL : Hid (∀ V : Int, V = (if (1099511627776 : Int) < (N : Int) * 10 + ((s[a + j].toNat : Int) - 48) then 1099511627776 else (N : Int) * 10 + ((s[a + j].toNat : Int) - 48)) → Two w B a 2 (nm ((c :: l).take (j + 1)) : Nat) (W2.setCell ⟨B + 1, 3, none⟩ (.int .i64 V))) := Lib.hid (fun V hV => by
                  rw [← hval V hV]; exact HT2.out.setN hB' _)
                clear hval
                by_cases hgt : (1099511627776 : Int) < (N : Int) * 10 + ((s[a + j].toNat : Int) - 48)
                · go_wp2
                  go_roundg (k - (j + 1))
                  case rel => exact ⟨j + 1, Nat.le_refl _, by omega, by go_num, HVAL.out _ (by rw [if_pos hgt])⟩
                  case measure => have := HGJ.out; omega
                · have hgt' : (N : Int) * 10 + ((s[a + j].toNat : Int) - 48) ≤ 1099511627776 := by omega
                  go_wp2
                  go_roundg (k - (j + 1))
                  case rel => exact ⟨j + 1, Nat.le_refl _, by omega, by go_num, HVAL.out _ (by rw [if_neg (by omega)])⟩
                  case measure => have := HGJ.out; omega
              · obtain rfl : j = k := by omega
                clear hjk
                go_wp2
                obtain ⟨hf, hk⟩ := Two.fin (HTj.out) hB' (.string (s.extract a (a + j)))
                rw [HV.out]
                generalize (((((wr.setCell ⟨B + 1, 2, none⟩ (.string (s.extract a (a + j)))).setCell ⟨B, 0, none⟩ (.int .i64 2)).setCell ⟨B, 1, none⟩ (.int .i64 a)).setCell ⟨B, 2, none⟩ (.string (s.extract a (a + j)))).setCell ⟨B, 3, none⟩ (.int .i64 (nm ((c :: l).take j)))) = W9 at hf hk ⊢
                have d0 : W9.cell? ⟨B, 0, none⟩ = some (.int .i64 2) := cell_blk hf 0
                have d1 : W9.cell? ⟨B, 1, none⟩ = some (.int .i64 a) := cell_blk hf 1
                have d2 : W9.cell? ⟨B, 2, none⟩ = some (.string (s.extract a (a + j))) := cell_blk hf 2
                have d3 : W9.cell? ⟨B, 3, none⟩ = some (.int .i64 (nm ((c :: l).take j))) := cell_blk hf 3
                exact bodyPost_ret (v := .agg #[.int .i64 2, .int .i64 a, .string (s.extract a (a + j)), .int .i64 (nm ((c :: l).take j))]) (by simp [results, Tryd.results70, go_sem, d0, d1, d2, d3]) rfl ⟨rfl, hk⟩
          · have HG : Hid (isDig d = true) := Lib.hid g1
            clear g1
            have hn := spn_yes HR.out HD.out HG.out
            have HN := Lib.hid hn
            clear hn
            go_wp2
            go_roundg ((c :: l).length - (k + 1))
            case rel => exact ⟨rfl, k + 1, Nat.le_refl _, by omega, HB2.out, by go_num, HN.out⟩
            case measure => have := HK.out; have := HB2.out; omega
        · have hlt' : ¬ (a : Int) + (k : Int) < (s.size : Int) := by omega
          have HS := Lib.hid (spn_end HR.out (by have := HL.out.2; omega))
          clear hlt
          have hks' : (a : Int) + (k : Int) ≤ (s.size : Int) := by omega
          have hv : oneAt a (s.data.toList.drop a) = .agg #[.int .i64 2, .int .i64 a, .string (s.extract a (a + k)), .int .i64 (nm ((c :: l).take k))] := by
            rw [mk_part, HL.out.1]
            exact oneAt_kind (knd_dig H1.out H2.out) (by decide) (by rw [tln_dig H1.out H2.out, HS.out])
          have HV := Lib.hid hv
          have hall : ∀ d ∈ (c :: l).take k, isDig d = true := by rw [← HS.out]; exact take_all
          have HALL := Lib.hid hall
          obtain ⟨wo, rfl⟩ : ∃ wo : World, wo = wr := ⟨_, rfl⟩
          clear hv hall
          go_wp2_with fail
          go_loopg [10] (k) (fun gh iv wr => ∃ j : Nat, k - j ≤ gh ∧ j ≤ k ∧ iv = .int .i64 ((a : Int) + (j : Int)) ∧ Two w B a 2 (nm ((c :: l).take j) : Nat) wr)
          case atStart => exact ⟨0, by omega, by omega, by go_num, HT.out⟩
          case round =>
            obtain ⟨j, hgj, hj, rfl, hT⟩ := hrel
            have HGJ := Lib.hid hgj
            have hle := nm_le ((c :: l).take j)
            obtain ⟨⟨r0, r1, r2, r3⟩, ⟨e0, e1, e2, e3⟩, ⟨x0, x1, x2, x3⟩, ⟨f0, f1, f2, f3⟩⟩ := hT.facts
            have HTj := Lib.hid hT
            clear hT hgj
            by_cases hjk : j < k
            · have hjk' : (a : Int) + (j : Int) < (a : Int) + (k : Int) := by omega
              have hjs : a + j < s.size := by omega
              have hjs' : (a : Int) + (j : Int) < (s.size : Int) := by omega
              have h0j : 0 ≤ (a : Int) + (j : Int) := by omega
              have htj : ((a : Int) + (j : Int)).toNat = a + j := by omega
              obtain ⟨d, hd⟩ : ∃ d, (c :: l)[j]? = some d := ⟨_, List.getElem?_eq_getElem (by have := HK.out.1; omega)⟩
              have hsd : s[a + j] = d := by
                have : s.data.toList[a + j]? = some d := by rw [← List.getElem?_drop, HL.out.1]; exact hd
                simp [hjs] at this
                exact this
              have hdd := HALL.out d (List.mem_of_getElem? (i := j) (by rw [List.getElem?_take, if_pos hjk]; exact hd))
              have hns : nm ((c :: l).take (j + 1)) = nmStep (nm ((c :: l).take j)) d := by rw [List.take_add_one, hd]; exact nm_snoc _ _
              unfold isDig at hdd
              simp at hdd
              have h48 : 48 ≤ (s[a + j].toNat : Int) := by rw [hsd]; omega
              have h57 : (s[a + j].toNat : Int) ≤ 57 := by rw [hsd]; omega
              have HNS := Lib.hid (And.intro hns (And.intro hsd hdd))
              clear hns hsd hdd hd
              generalize hN : nm ((c :: l).take j) = N at hle HNS HTj x3
              have HN := Lib.hid hN
              clear hN
              have m1 : IntKind.i64.wrap ((N : Int) * 10) = (N : Int) * 10 := IntWalk.i64_in _ (by omega)
              have m2 : IntKind.u8.wrap ((s[a + j].toNat : Int) - 48) = (s[a + j].toNat : Int) - 48 := IntWalk.u8_in _ (by omega)
              have m4 : IntKind.i64.wrap ((s[a + j].toNat : Int) - 48) = (s[a + j].toNat : Int) - 48 := IntWalk.i64_in _ (by omega)
              have m3 : IntKind.i64.wrap ((N : Int) * 10 + ((s[a + j].toNat : Int) - 48)) = (N : Int) * 10 + ((s[a + j].toNat : Int) - 48) := IntWalk.i64_in _ (by omega)
              go_wp2_with fail
              go_still_tail 11, (by kernel_rfl)
              refine name_drew_list (w := wr) ?_
              rintro W2 K2 -
              have HT2 := Lib.hid (HTj.out.kept K2)
              clear r0 r1 r2 r3 e0 e1 e2 e3 x0 x1 x2 x3 f0 f1 f2 f3 m1 m2 m3 m4 K2
              obtain ⟨-, -, ⟨x0, x1, x2, x3⟩, ⟨f0, f1, f2, f3⟩⟩ := HT2.out.facts
              have hval : ∀ V : Int, V = (if (1099511627776 : Int) < (N : Int) * 10 + ((s[a + j].toNat : Int) - 48) then 1099511627776 else (N : Int) * 10 + ((s[a + j].toNat : Int) - 48)) → V = (nm ((c :: l).take (j + 1)) : Nat) := by
                rintro V rfl
                rw [HNS.out.1, HNS.out.2.1]
                have := HNS.out.2.2
                unfold nmStep
                split <;> omega
              have HVAL : Hid (∀ V : Int, V = (if (1099511627776 : Int) < (N : Int) * 10 + ((s[a + j].toNat : Int) - 48) then 1099511627776 else (N : Int) * 10 + ((s[a + j].toNat : Int) - 48)) → Two w B a 2 (nm ((c :: l).take (j + 1)) : Nat) (W2.setCell ⟨B + 1, 3, none⟩ (.int .i64 V))) := Lib.hid (fun V hV => by
                rw [← hval V hV]; exact HT2.out.setN hB' _)
              clear hval
              by_cases hgt : (1099511627776 : Int) < (N : Int) * 10 + ((s[a + j].toNat : Int) - 48)
              · go_wp2
                go_roundg (k - (j + 1))
                case rel => exact ⟨j + 1, Nat.le_refl _, by omega, by go_num, HVAL.out _ (by rw [if_pos hgt])⟩
                case measure => have := HGJ.out; omega
              · have hgt' : (N : Int) * 10 + ((s[a + j].toNat : Int) - 48) ≤ 1099511627776 := by omega
                go_wp2
                go_roundg (k - (j + 1))
                case rel => exact ⟨j + 1, Nat.le_refl _, by omega, by go_num, HVAL.out _ (by rw [if_neg (by omega)])⟩
                case measure => have := HGJ.out; omega
            · obtain rfl : j = k := by omega
              clear hjk
              go_wp2
              obtain ⟨hf, hk⟩ := Two.fin (HTj.out) hB' (.string (s.extract a (a + j)))
              rw [HV.out]
              generalize (((((wr.setCell ⟨B + 1, 2, none⟩ (.string (s.extract a (a + j)))).setCell ⟨B, 0, none⟩ (.int .i64 2)).setCell ⟨B, 1, none⟩ (.int .i64 a)).setCell ⟨B, 2, none⟩ (.string (s.extract a (a + j)))).setCell ⟨B, 3, none⟩ (.int .i64 (nm ((c :: l).take j)))) = W9 at hf hk ⊢
              have d0 : W9.cell? ⟨B, 0, none⟩ = some (.int .i64 2) := cell_blk hf 0
              have d1 : W9.cell? ⟨B, 1, none⟩ = some (.int .i64 a) := cell_blk hf 1
              have d2 : W9.cell? ⟨B, 2, none⟩ = some (.string (s.extract a (a + j))) := cell_blk hf 2
              have d3 : W9.cell? ⟨B, 3, none⟩ = some (.int .i64 (nm ((c :: l).take j))) := cell_blk hf 3
              exact bodyPost_ret (v := .agg #[.int .i64 2, .int .i64 a, .string (s.extract a (a + j)), .int .i64 (nm ((c :: l).take j))]) (by simp [results, Tryd.results70, go_sem, d0, d1, d2, d3]) rfl ⟨rfl, hk⟩
  · have H1 := Lib.hid h1
    clear h1
    have HT := Lib.hid (T0.setK hB' 1)
    obtain ⟨⟨r0, r1, r2, r3⟩, ⟨e0, e1, e2, e3⟩, ⟨x0, x1, x2, x3⟩, ⟨f0, f1, f2, f3⟩⟩ := T0.facts
    clear T0
    go_wp2_with fail
    clear r0 r1 r2 r3 e0 e1 e2 e3 x0 x1 x2 x3 f0 f1 f2 f3
    generalize (w0.setCell ⟨B + 1, 0, none⟩ (.int .i64 1)) = w1 at HT ⊢
    have l0 : 1 ≤ (c :: l).length := by simp
    have hp0 : 1 + spn isGo ((c :: l).drop 1) = spn isGo (c :: l) := by
      rw [spn_cons, if_pos (let_go H1.out)]; simp; omega
    go_loopg [6] ((c :: l).length) (fun gh ev wr => wr = w1 ∧ ∃ k : Nat, (c :: l).length - k ≤ gh ∧ 1 ≤ k ∧ k ≤ (c :: l).length ∧ ev = .int .i64 ((a : Int) + (k : Int)) ∧ k + spn isGo ((c :: l).drop k) = spn isGo (c :: l))
    case atStart => exact ⟨rfl, 1, by omega, by omega, l0, rfl, hp0⟩
    case round =>
      obtain ⟨rfl, k, hgh, hk1, hk, rfl, hr⟩ := hrel
      have HR := Lib.hid hr
      have hll := HL.out.2
      have hks : a + k ≤ s.size := by omega
      have HK := Lib.hid (And.intro hk hgh)
      clear hr hp0 hll hk l0 hgh
      by_cases hlt : a + k < s.size
      · have hlt' : (a : Int) + (k : Int) < (s.size : Int) := by omega
        have hB2 : k + 1 ≤ (c :: l).length := by have := HL.out.2; omega
        have HB2 := Lib.hid hB2
        obtain ⟨d, hd⟩ : ∃ d, (c :: l)[k]? = some d := ⟨_, List.getElem?_eq_getElem (by omega)⟩
        have hsd : s[a + k] = d := by
          have : s.data.toList[a + k]? = some d := by rw [← List.getElem?_drop, HL.out.1]; exact hd
          simp [hlt] at this
          exact this
        have HSD := Lib.hid hsd
        have HD := Lib.hid hd
        clear hd hB2 hsd
        go_wp2_with fail
        refine (refLetter_any s[a + k] _).mono ?_
        rintro e w' ⟨rfl, rfl⟩
        rw [HSD.out]
        cases g1 : isLet d
        · have G1 := Lib.hid g1
          clear g1
          go_wp2_with fail
          refine (refDigit_any s[a + k] _).mono ?_
          rintro e w' ⟨rfl, rfl⟩
          rw [HSD.out]
          cases g2 : isDig d
          · have G2 := Lib.hid g2
            clear g2
            by_cases h46 : d.toNat = 46
            · have t1 : ((s[a + k].toNat : Int) == 46) = true := by rw [HSD.out, beq_iff_eq]; omega
              have HG : Hid (isGo d = true) := Lib.hid (by unfold isGo; simp [h46])
              clear h46
              have hn := spn_yes HR.out HD.out HG.out
              have HN := Lib.hid hn
              clear hn
              go_wp2
              go_roundg ((c :: l).length - (k + 1))
              case rel => exact ⟨rfl, k + 1, Nat.le_refl _, by omega, HB2.out, by go_num, HN.out⟩
              case measure => have := HK.out; have := HB2.out; omega
            · have t1 : ((s[a + k].toNat : Int) == 46) = false := by rw [HSD.out, beq_eq_false_iff_ne]; omega
              by_cases h45 : d.toNat = 45
              · have t2 : ((s[a + k].toNat : Int) == 45) = true := by rw [HSD.out, beq_iff_eq]; omega
                have HG : Hid (isGo d = true) := Lib.hid (by unfold isGo; simp [h45])
                clear h45 h46
                have hn := spn_yes HR.out HD.out HG.out
                have HN := Lib.hid hn
                clear hn
                go_wp2
                go_roundg ((c :: l).length - (k + 1))
                case rel => exact ⟨rfl, k + 1, Nat.le_refl _, by omega, HB2.out, by go_num, HN.out⟩
                case measure => have := HK.out; have := HB2.out; omega
              · have t2 : ((s[a + k].toNat : Int) == 45) = false := by rw [HSD.out, beq_eq_false_iff_ne]; omega
                have hgo : isGo d = false := by unfold isGo; rw [G1.out, G2.out, show (d.toNat == 46) = false from by rw [beq_eq_false_iff_ne]; exact h46, show (d.toNat == 45) = false from by rw [beq_eq_false_iff_ne]; exact h45]; rfl
                have HS := Lib.hid (spn_no HR.out HD.out hgo)
                clear hgo h45 h46
                have hv : oneAt a (s.data.toList.drop a) = .agg #[.int .i64 1, .int .i64 a, .string (s.extract a (a + k)), .int .i64 0] := by
                  rw [mk_part, HL.out.1]
                  exact oneAt_kind (knd_let H1.out) (by decide) (by rw [tln_let H1.out, HS.out])
                have HV := Lib.hid hv
                have hks' : (a : Int) + (k : Int) ≤ (s.size : Int) := by omega
                obtain ⟨⟨r0, r1, r2, r3⟩, ⟨e0, e1, e2, e3⟩, ⟨x0, x1, x2, x3⟩, ⟨f0, f1, f2, f3⟩⟩ := HT.out.facts
                clear hv
                go_wp2
                obtain ⟨hf, hk⟩ := Two.fin (HT.out) hB' (.string (s.extract a (a + k)))
                rw [HV.out]
                generalize (((((wr.setCell ⟨B + 1, 2, none⟩ (.string (s.extract a (a + k)))).setCell ⟨B, 0, none⟩ (.int .i64 1)).setCell ⟨B, 1, none⟩ (.int .i64 a)).setCell ⟨B, 2, none⟩ (.string (s.extract a (a + k)))).setCell ⟨B, 3, none⟩ (.int .i64 0)) = W9 at hf hk ⊢
                have d0 : W9.cell? ⟨B, 0, none⟩ = some (.int .i64 1) := cell_blk hf 0
                have d1 : W9.cell? ⟨B, 1, none⟩ = some (.int .i64 a) := cell_blk hf 1
                have d2 : W9.cell? ⟨B, 2, none⟩ = some (.string (s.extract a (a + k))) := cell_blk hf 2
                have d3 : W9.cell? ⟨B, 3, none⟩ = some (.int .i64 0) := cell_blk hf 3
                exact bodyPost_ret (v := .agg #[.int .i64 1, .int .i64 a, .string (s.extract a (a + k)), .int .i64 0]) (by simp [results, Tryd.results70, go_sem, d0, d1, d2, d3]) rfl ⟨rfl, hk⟩
          · have HG : Hid (isGo d = true) := Lib.hid (by unfold isGo; simp [g2])
            clear g2
            have hn := spn_yes HR.out HD.out HG.out
            have HN := Lib.hid hn
            clear hn
            go_wp2
            go_roundg ((c :: l).length - (k + 1))
            case rel => exact ⟨rfl, k + 1, Nat.le_refl _, by omega, HB2.out, by go_num, HN.out⟩
            case measure => have := HK.out; have := HB2.out; omega
        · have HG : Hid (isGo d = true) := Lib.hid (let_go g1)
          clear g1
          have hn := spn_yes HR.out HD.out HG.out
          have HN := Lib.hid hn
          clear hn
          go_wp2
          go_roundg ((c :: l).length - (k + 1))
          case rel => exact ⟨rfl, k + 1, Nat.le_refl _, by omega, HB2.out, by go_num, HN.out⟩
          case measure => have := HK.out; have := HB2.out; omega
      · have hlt' : ¬ (a : Int) + (k : Int) < (s.size : Int) := by omega
        have HS := Lib.hid (spn_end HR.out (by have := HL.out.2; omega))
        clear hlt
        have hv : oneAt a (s.data.toList.drop a) = .agg #[.int .i64 1, .int .i64 a, .string (s.extract a (a + k)), .int .i64 0] := by
          rw [mk_part, HL.out.1]
          exact oneAt_kind (knd_let H1.out) (by decide) (by rw [tln_let H1.out, HS.out])
        have HV := Lib.hid hv
        have hks' : (a : Int) + (k : Int) ≤ (s.size : Int) := by omega
        obtain ⟨⟨r0, r1, r2, r3⟩, ⟨e0, e1, e2, e3⟩, ⟨x0, x1, x2, x3⟩, ⟨f0, f1, f2, f3⟩⟩ := HT.out.facts
        clear hv
        go_wp2
        obtain ⟨hf, hk⟩ := Two.fin (HT.out) hB' (.string (s.extract a (a + k)))
        rw [HV.out]
        generalize (((((wr.setCell ⟨B + 1, 2, none⟩ (.string (s.extract a (a + k)))).setCell ⟨B, 0, none⟩ (.int .i64 1)).setCell ⟨B, 1, none⟩ (.int .i64 a)).setCell ⟨B, 2, none⟩ (.string (s.extract a (a + k)))).setCell ⟨B, 3, none⟩ (.int .i64 0)) = W9 at hf hk ⊢
        have d0 : W9.cell? ⟨B, 0, none⟩ = some (.int .i64 1) := cell_blk hf 0
        have d1 : W9.cell? ⟨B, 1, none⟩ = some (.int .i64 a) := cell_blk hf 1
        have d2 : W9.cell? ⟨B, 2, none⟩ = some (.string (s.extract a (a + k))) := cell_blk hf 2
        have d3 : W9.cell? ⟨B, 3, none⟩ = some (.int .i64 0) := cell_blk hf 3
        exact bodyPost_ret (v := .agg #[.int .i64 1, .int .i64 a, .string (s.extract a (a + k)), .int .i64 0]) (by simp [results, Tryd.results70, go_sem, d0, d1, d2, d3]) rfl ⟨rfl, hk⟩
end Go.Proofs.YtefdcjmfbjlinaaDoor.Sc
