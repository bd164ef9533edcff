/- Each, as an iterator: the tokens of a text, one by one. -/
import Derived.Test.YtefdcjmfbjlinaaDoorLexer
import Derived.Test.YtefdcjmfbjlinaaDoorFine
namespace Go.Proofs.YtefdcjmfbjlinaaDoor.Sc
open Go.RowKit Go.Shelf
attribute [local go_sem] Oper.semAt_some
theorem each_any (s : ByteArray) (w : World) : Calls Tryd.prog 39 #[.string s] w fun e w' => e = .returned (.func (.func 52) #[] #[.pointer (some ⟨w.heap.size, 0, none⟩)]) ∧ w' = w.alloc (.cells #[.string s] 9) := by
  go_enter Tryd.func39, Tryd.ntmps39
  go_wp2
  go_ret
  exact ⟨rfl, rfl⟩

theorem keeps_grown {a b : World} (h : Keeps [] a b) : a.grownBy b none := ⟨h.os, h.tape, h.output, h.size, fun k hk _ => h.block k hk (by simp)⟩

/-- What a round of the loop over tokens keeps: the text, and every box of one token. -/
def KpT (Bx : Nat) (W W' : World) : Prop :=
  W.heap.size ≤ W'.heap.size ∧ W'.heap[Bx]? = W.heap[Bx]? ∧ ∀ (k : Nat) (cs : Array Value), W.heap[k]? = some (Obj.cells cs 69 (0, 0)) → cs.size = 4 → W'.heap[k]? = some (Obj.cells cs 69 (0, 0))
theorem kpT_t {Bx : Nat} {A B C : World} (h : KpT Bx A B) (k : KpT Bx B C) : KpT Bx A C :=
  ⟨Nat.le_trans h.1 k.1, k.2.1.trans h.2.1, fun i cs hi hs => k.2.2 i cs (h.2.2 i cs hi hs) hs⟩
theorem kpT_put {Bx : Nat} {w : World} (hB : Bx < w.heap.size) (W : World) (l : Nat) (o o' : Obj) (hl : w.heap.size ≤ l) (ho : W.heap[l]? = some o) (hc : o.isCells = false) (_ : o.isWalk = false) : KpT Bx W (W.putObj l o') := by
  refine ⟨by simp [World.putObj], World.putObj_heap_other (by omega), fun k cs hk _ => ?_⟩
  by_cases e : k = l
  · subst e; rw [hk] at ho; cases ho; cases hc
  · exact (World.putObj_heap_other e).trans hk

theorem tkOf_at (n : Nat) (l : List UInt8) : tkOf n l = { tkOf 0 l with at_ := n } := by cases l <;> rfl
theorem tkOf_len (n : Nat) (l : List UInt8) : (tkOf n l).text.length = tln l := by
  cases l with
  | nil => rfl
  | cons c l => have := tln_le (c :: l); simp only [tkOf, List.length_take]; omega

set_option maxHeartbeats 1000000 in
/-- The iterator, whatever the loop's body is that lets the text be, and its tokens' boxes. -/
theorem each_stops (n : Nat) (hn : 1 ≤ n) (Bx : Nat) (s : ByteArray) (hs : s.size ≤ 140737488351232) (w : World) (hx : w.heap[Bx]? = some (.cells #[.string s] 9 (0, 0))) :
    SeqStopsK Fence.wide n Tryd.prog 52 #[.pointer (some ⟨Bx, 0, none⟩)] (fun t : Tk => #[tkV t]) (KpT Bx) (fun ys => ys = (eachL s.data.toList).1)
      (fun pre => ∃ k, k ≤ (eachL s.data.toList).1.length ∧ pre = (eachL s.data.toList).1.take k) (eachL s.data.toList).1.length w := by
  intro lp J Jx W hW hJ hJx hY h0
  have hBx := blk_lt hx
  have hxW : W.heap[Bx]? = some (.cells #[.string s] 9 (0, 0)) := (hW.block Bx hBx).trans hx
  have hxlt := blk_lt hxW
  have cx : W.cell? ⟨Bx, 0, none⟩ = some (.string s) := cell_blk hxW 0
  have HX := Lib.hid hxW
  have H0 := Lib.hid h0
  have HJ := Lib.hid hJ
  have HY := Lib.hid hY
  clear hxW hx hJ hJx hW h0 hY
  refine callsIn_of_wp Tryd.func52 rfl trivial ?_ rfl
  simp only [Tryd.ntmps52, List.size_toArray, List.length_cons, List.length_nil, Nat.reduceAdd, Nat.reduceSub, Array.replicate_succ, Array.replicate_zero, List.push_toArray, List.append_toArray, List.nil_append, List.cons_append]
  gi_wp2_with (refine ⟨trivial, ?_⟩; gi_at_call 40; refine (callsIn_wide.2 (skip_any s hs _)).mono ?_; rintro e w' ⟨rfl, rfl⟩)
  have hsk := skp_le false s.data.toList
  have hlen : s.data.toList.length = s.size := by simp
  have heq := eachL_eq s.data.toList
  have hst : ∃ (k a : Nat), a ≤ s.size ∧ skp false s.data.toList = a ∧ k = 0 ∧ (eachL s.data.toList).1.drop k = (rst a (s.data.toList.drop a)).1 := ⟨0, _, by omega, rfl, rfl, by rw [heq]; rfl⟩
  obtain ⟨k0, a0, ha0, hae, hk0, hr0⟩ := hst
  rw [hae]
  have HR0 := Lib.hid (And.intro hk0 hr0)
  clear hk0 hr0 heq hae hsk hlen
  gi_loopw [3] (fun i wr => ∃ k a : Nat, a ≤ s.size ∧ k ≤ (eachL s.data.toList).1.length ∧ i = .int .i64 a ∧ (eachL s.data.toList).1.drop k = (rst a (s.data.toList.drop a)).1 ∧ J ((eachL s.data.toList).1.take k) wr ∧ wr.heap[Bx]? = some (.cells #[.string s] 9 (0, 0))) (fun i _ => s.size - (intOf i).toNat)
  case atStart => exact ⟨k0, a0, ha0, by rw [HR0.out.1]; omega, rfl, HR0.out.2, by rw [HR0.out.1]; exact H0.out, HX.out⟩
  case round =>
    obtain ⟨k, a, ha, hk, rfl, hr, hJs, hxr⟩ := hrel
    have HJs := Lib.hid hJs
    have HXr := Lib.hid hxr
    have cxr : wr.cell? ⟨Bx, 0, none⟩ = some (.string s) := cell_blk hxr 0
    have hxlr := blk_lt hxr
    have HR := Lib.hid hr
    clear hJs hxr hr HR0
    by_cases hlt : a < s.size
    · have hlt' : (a : Int) < (s.size : Int) := by omega
      have hsz : (s.extract a s.size).size ≤ 140737488351232 := by rw [tail_size]; omega
      have hsp : 0 < (s.extract a s.size).size := by rw [tail_size]; omega
      have HSZ := Lib.hid (And.intro hsz hsp)
      clear hsz hsp
      obtain ⟨c, l, hcl⟩ : ∃ c l, s.data.toList.drop a = c :: l := ⟨s[a], s.data.toList.drop (a + 1), by rw [List.drop_eq_getElem_cons (by simpa using hlt)]; rfl⟩
      gi_wp2_with fail
      refine ⟨trivial, (callsIn_wide.2 (one_any _ HSZ.out.1 HSZ.out.2 _)).mono ?_⟩
      rintro e w2 ⟨rfl, K2⟩
      rw [tail_data, hcl]
      have hx2 := K2.blk HXr.out (by simp)
      have HX2 := Lib.hid hx2
      have cx2 : w2.cell? ⟨Bx, 0, none⟩ = some (.string s) := cell_blk hx2 0
      by_cases hk0 : knd c = 0
      · rw [oneV_none hk0]
        have hend : k = (eachL s.data.toList).1.length := by
          have := HR.out
          rw [hcl, rst_none _ hk0] at this
          have := List.drop_eq_nil_iff.1 this
          omega
        have HE := Lib.hid hend
        have HJd : Hid (∀ o, J ((eachL s.data.toList).1.take k) (w2.alloc o)) := Lib.hid (fun o => HJ.out _ wr _ none HJs.out (keeps_grown (K2.alloc o)) (fun r e => by cases e))
        clear hend hk0 hx2 hcl
        gi_wp2
        refine ⟨(fun f hf => by cases hf), ?_⟩
        gi_wp2
        refine bodyPost_ret (results_none rfl _ _ _) rfl ?_
        exact ⟨⟨_, rfl⟩, .inl ⟨_, rfl, by have := HJd.out (.cells #[.int .i64 0, .int .i64 a, .string ⟨#[]⟩, .int .i64 0] 69); rw [HE.out, List.take_length] at this; exact this⟩⟩
      · have hov : oneV (c :: l) = tkV (tkOf 0 (c :: l)) := by unfold oneV; rw [if_neg (by simpa [tkOf] using hk0)]
        rw [hov]
        have htl : (eachL s.data.toList).1.drop k = tkOf a (c :: l) :: (rst (a + nxt (c :: l)) ((c :: l).drop (nxt (c :: l)))).1 := by
          have := HR.out
          rw [hcl, rst_some _ hk0] at this
          exact this
        have hkl : k < (eachL s.data.toList).1.length := by
          rcases Nat.lt_or_ge k (eachL s.data.toList).1.length with h | h
          · exact h
          · rw [List.drop_eq_nil_of_le h] at htl; cases htl
        have hkk : (tkOf 0 (c :: l)).kind ≠ 0 := by simpa [tkOf] using hk0
        have hto := tkOf_at a (c :: l)
        have hln := tkOf_len 0 (c :: l)
        have htn := tln_pos c l
        have hnx : nxt (c :: l) = tln (c :: l) + skp false ((c :: l).drop (tln (c :: l))) := rfl
        have hnl := nxt_le (c :: l)
        have htt := tln_le (c :: l)
        have hll : (c :: l).length = s.size - a := by rw [← hcl]; simp
        have hnum : (tkOf 0 (c :: l)).num ≤ 1099511627776 := by
          simp only [tkOf]; split
          · exact nm_le _
          · omega
        unfold tkV
        generalize htk : tkOf 0 (c :: l) = t0 at *
        obtain ⟨kd, at0, tx, nu⟩ := t0
        have hat0 : at0 = 0 := by have := congrArg Tk.at_ htk; simpa [tkOf] using this.symm
        subst hat0
        simp only at hkk hto hln hnum ⊢
        have t1 : ((kd : Int) == 0) = false := by rw [beq_eq_false_iff_ne]; omega
        have HALL := Lib.hid (And.intro htl (And.intro hto (And.intro hln (And.intro hnx (And.intro hnl (And.intro htt (And.intro hll (And.intro hcl hkl))))))))
        clear htl hto hln hnx hll hcl htk hov hk0 hkk hx2 htn hnl htt
        gi_wp2_with fail
        have hJd := HJ.out _ wr (w2.alloc (.cells #[.int .i64 kd, .int .i64 a, .string ⟨tx.toArray⟩, .int .i64 nu] 69)) none HJs.out (keeps_grown (K2.alloc _)) (fun r e => by cases e)
        have hXb := blk_new w2 (.cells #[.int .i64 kd, .int .i64 a, .string ⟨tx.toArray⟩, .int .i64 nu] 69)
        have hXx := blk_alloc HX2.out (.cells #[.int .i64 kd, .int .i64 a, .string ⟨tx.toArray⟩, .int .i64 nu] 69)
        obtain ⟨fn, tmps, assign, body, hy, hR⟩ := HY.out _ ⟨kd, a, tx, nu⟩ _ hJd (by rw [List.length_take]; omega)
        unfold tkV at hy
        simp only at hy
        obtain ⟨X, hXe⟩ : ∃ X, X = w2.heap.size := ⟨_, rfl⟩
        rw [← hXe] at hXb ⊢
        generalize (w2.alloc (.cells #[.int .i64 kd, .int .i64 a, .string ⟨tx.toArray⟩, .int .i64 nu] 69)) = W1 at hJd hXb hXx hy hR ⊢
        have HXB := Lib.hid (And.intro hXb hXx)
        clear hJd hXb hXx hXe cx2 K2
        rw [hy]
        simp only [Oper.uponIn]
        refine ⟨(fun _ => hn), hR.mono ?_⟩
        rintro e W3 (⟨rfl, hJ3, hk3⟩ | ⟨rfl, hJx3⟩)
        · have hb3 := hk3.2.2 _ _ HXB.out.1 rfl
          have hx3 := hk3.2.1.trans HXB.out.2
          have HX3 := Lib.hid hx3
          have HJ3 := Lib.hid hJ3
          have d2 : W3.cell? ⟨X, 2, none⟩ = some (.string ⟨tx.toArray⟩) := cell_blk hb3 2
          have dx : W3.cell? ⟨Bx, 0, none⟩ = some (.string s) := cell_blk hx3 0
          have hts : ByteArray.size ⟨tx.toArray⟩ = tx.length := by simp [ByteArray.size]
          have HTS := Lib.hid hts
          clear hb3 hx3 hJ3 hk3 hy hR hts
          have hbd : (a : Int) + (tx.length : Int) ≤ (s.size : Int) := by
            obtain ⟨-, -, hln, -, -, htt, hll, -⟩ := HALL.out
            omega
          gi_wp2_with fail
          refine ⟨trivial, (callsIn_wide.2 (skip_any _ (by rw [tail_size]; omega) _)).mono ?_⟩
          rintro e w' ⟨rfl, rfl⟩
          rw [tail_data]
          have hnew : Hid (a + tx.length + skp false (s.data.toList.drop (a + tx.length)) = a + nxt (c :: l) ∧ a + nxt (c :: l) ≤ s.size ∧ 1 ≤ nxt (c :: l) ∧ (eachL s.data.toList).1.drop (k + 1) = (rst (a + nxt (c :: l)) (s.data.toList.drop (a + nxt (c :: l)))).1 ∧ J ((eachL s.data.toList).1.take (k + 1)) W3) := Lib.hid (by
            obtain ⟨htl, hto, hln, hnx, hnl, htt, hll, hcl, -⟩ := HALL.out
            have hp := nxt_pos c l
            refine ⟨?_, by omega, hp, ?_, ?_⟩
            · rw [hnx, ← hcl, List.drop_drop, hln, ← hcl, hcl]; omega
            · rw [show s.data.toList.drop (a + nxt (c :: l)) = (c :: l).drop (nxt (c :: l)) from by rw [← hcl, List.drop_drop, hcl], show (eachL s.data.toList).1.drop (k + 1) = ((eachL s.data.toList).1.drop k).drop 1 from by rw [List.drop_drop], htl]; rfl
            · have hg : (eachL s.data.toList).1[k]? = some ⟨kd, a, tx, nu⟩ := by
                have := congrArg List.head? htl
                rw [List.head?_drop] at this
                rw [this, List.head?_cons, hto]
              rw [List.take_add_one, hg]
              exact HJ3.out)
          have hsk := skp_le false (s.data.toList.drop (a + tx.length))
          simp only [List.length_drop] at hsk
          have hl3 : s.data.toList.length = s.size := by simp
          generalize skp false (s.data.toList.drop (a + tx.length)) = q at hnew hsk ⊢
          have hq : (a : Int) + (tx.length : Int) + (q : Int) ≤ (s.size : Int) := by omega
          clear hl3 hsk
          gi_wp2
          go_roundw
          case rel => exact ⟨k + 1, a + nxt (c :: l), hnew.out.2.1, by omega, by rw [← hnew.out.1]; go_num, hnew.out.2.2.2.1, hnew.out.2.2.2.2, HX3.out⟩
          case measure => have := hnew.out.1; have := hnew.out.2.2.1; simp [intOf]; omega
        · have hJx' := Lib.hid hJx3
          clear hy hR hJx3
          gi_wp2
          refine bodyPost_ret (results_none rfl _ _ _) rfl ?_
          refine ⟨⟨_, rfl⟩, .inr ⟨_, ⟨k + 1, hkl, ?_⟩, hJx'.out⟩⟩
          obtain ⟨htl, hto, -⟩ := HALL.out
          have hg : (eachL s.data.toList).1[k]? = some ⟨kd, a, tx, nu⟩ := by
            have := congrArg List.head? htl
            rw [List.head?_drop] at this
            rw [this, List.head?_cons, hto]
          rw [List.take_add_one, hg]
          rfl
    · obtain rfl : a = s.size := by omega
      have hend : k = (eachL s.data.toList).1.length := by
        have := HR.out
        rw [show s.data.toList.drop s.size = [] from List.drop_eq_nil_of_le (by simp), rst_nil] at this
        have := List.drop_eq_nil_iff.1 this
        omega
      have HE := Lib.hid hend
      clear hend
      gi_wp2
      go_end0
      exact ⟨⟨_, rfl⟩, .inl ⟨_, rfl, by have := HJs.out; rw [HE.out, List.take_length] at this; exact this⟩⟩
end Go.Proofs.YtefdcjmfbjlinaaDoor.Sc
