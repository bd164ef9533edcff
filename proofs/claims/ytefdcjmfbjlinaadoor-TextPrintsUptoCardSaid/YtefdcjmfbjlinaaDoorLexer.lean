/- The walks of scan: what each function tells, by plain lists. -/
import Derived.Test.YtefdcjmfbjlinaaDoorProg
import Derived.Test.YtefdcjmfbjlinaaDoorToks
import Derived.Test.YtefdcjmfbjlinaaDoorRangef
import Derived.Laws.BitsLemmas
import Derived.Lib.ConvBytes
import Derived.Lib.IndexBytes
import Derived.StillTactics
import Derived.StillTailTactics
namespace Go.Proofs.YtefdcjmfbjlinaaDoor.Sc
open Go.RowKit Go.Shelf

theorem bits_or32 (c : UInt8) : Go.bits .or .u8 (c.toNat : Int) 32 = (((c ||| 32).toNat : Nat) : Int) := by
  have h : ∀ n : Fin 256, Go.bits .or .u8 ((UInt8.ofNat n.val).toNat : Int) 32 = (((UInt8.ofNat n.val ||| 32).toNat : Nat) : Int) := by decide +kernel
  have := h ⟨c.toNat, c.toNat_lt⟩
  simpa using this
theorem isLet_int (c : UInt8) : isLet c = ((decide (97 ≤ Go.bits .or .u8 (c.toNat : Int) 32) && decide (Go.bits .or .u8 (c.toNat : Int) 32 ≤ 122)) || ((c.toNat : Int) == 95)) := by
  rw [bits_or32]
  unfold isLet
  rw [Bool.eq_iff_iff]
  simp
  omega
theorem isDig_int (c : UInt8) : isDig c = (decide (48 ≤ (c.toNat : Int)) && decide ((c.toNat : Int) ≤ 57)) := by
  unfold isDig
  rw [Bool.eq_iff_iff]
  simp
  omega
theorem notFeed_int (c : UInt8) : notFeed c = ((c.toNat : Int) != 10) := by
  unfold notFeed
  rw [Bool.eq_iff_iff]
  simp
  omega

theorem letter_any (c : UInt8) (w : World) : Calls Tryd.prog 71 #[.int .u8 (c.toNat : Int)] w fun e w' => e = .returned (.bool (isLet c)) ∧ w = w' := by
  go_enter Tryd.func71, Tryd.ntmps71
  go_wp2
  all_goals
    go_ret
    exact ⟨by rw [isLet_int]; (first | (simp [*]; done) | (simp [*]; omega)), rfl⟩

theorem digit_any (c : UInt8) (w : World) : Calls Tryd.prog 73 #[.int .u8 (c.toNat : Int)] w fun e w' => e = .returned (.bool (isDig c)) ∧ w = w' := by
  go_enter Tryd.func73, Tryd.ntmps73
  go_wp2
  all_goals
    go_ret
    exact ⟨by rw [isDig_int]; (first | (simp [*]; done) | (simp [*]; omega)), rfl⟩

theorem notFeed_any (c : UInt8) (w : World) : Calls Tryd.prog 55 #[.int .u8 (c.toNat : Int)] w fun e w' => e = .returned (.bool (notFeed c)) ∧ w = w' := by
  go_enter Tryd.func55, Tryd.ntmps55
  go_wp2
  go_ret
  exact ⟨by rw [notFeed_int]; simp, rfl⟩

theorem goes_any (c : UInt8) (w : World) : Calls Tryd.prog 72 #[.int .u8 (c.toNat : Int)] w fun e w' => e = .returned (.bool (isGo c)) ∧ w = w' := by
  by_cases h1 : c.toNat = 46
  · have t1 : ((c.toNat : Int) == 46) = true := by rw [beq_iff_eq]; omega
    have hg : isGo c = true := by unfold isGo; simp [h1]
    have HG := Lib.hid hg
    clear hg h1
    go_enter Tryd.func72, Tryd.ntmps72
    go_wp2
    go_ret
    exact ⟨by rw [HG.out]; simp, rfl⟩
  · have t1 : ((c.toNat : Int) == 46) = false := by rw [beq_eq_false_iff_ne]; omega
    by_cases h2 : c.toNat = 45
    · have t2 : ((c.toNat : Int) == 45) = true := by rw [beq_iff_eq]; omega
      have hg : isGo c = true := by unfold isGo; simp [h2]
      have HG := Lib.hid hg
      clear hg h1 h2
      go_enter Tryd.func72, Tryd.ntmps72
      go_wp2
      go_ret
      exact ⟨by rw [HG.out]; simp, rfl⟩
    · have t2 : ((c.toNat : Int) == 45) = false := by rw [beq_eq_false_iff_ne]; omega
      have hg : isGo c = (isLet c || isDig c) := by unfold isGo; rw [show (c.toNat == 46) = false from by rw [beq_eq_false_iff_ne]; exact h1, show (c.toNat == 45) = false from by rw [beq_eq_false_iff_ne]; exact h2]; rfl
      have HG := Lib.hid hg
      clear hg h1 h2
      cases hl : isLet c
      · go_enter Tryd.func72, Tryd.ntmps72
        go_wp2_with fail
        refine (letter_any c _).mono ?_
        rintro e w' ⟨rfl, rfl⟩
        rw [hl]
        go_wp2_with fail
        refine (digit_any c _).mono ?_
        rintro e w' ⟨rfl, rfl⟩
        go_wp2
        go_ret
        exact ⟨by rw [HG.out, hl]; simp, rfl⟩
      · go_enter Tryd.func72, Tryd.ntmps72
        go_wp2_with fail
        refine (letter_any c _).mono ?_
        rintro e w' ⟨rfl, rfl⟩
        rw [hl]
        go_wp2
        go_ret
        exact ⟨by rw [HG.out, hl]; simp, rfl⟩

/-- long, of whatever the bytes are asked. -/
theorem long_any (g : Nat) (p : UInt8 → Bool) (eg : ∀ args w, (callFunc g args).run Tryd.prog w = .ok (.enter g args) w) (hp : ∀ (c : UInt8) (w : World), Calls Tryd.prog g #[.int .u8 (c.toNat : Int)] w fun e w' => e = .returned (.bool (p c)) ∧ w = w') (s : ByteArray) (hs : s.size ≤ maxLen) (w : World) :
    Calls Tryd.prog 54 #[.string s, .func (.func g) #[] #[]] w fun e w' => e = .returned (.int .i64 (spn p s.data.toList)) ∧ w = w' := by
  have HP := Lib.hid hp
  unfold maxLen at hs
  clear hp
  go_enter Tryd.func54, Tryd.ntmps54
  go_wp2_with fail
  go_step3
  go_wp2_with fail
  go_step3
  go_wp2_with fail
  go_loop [5] (fun n => ∃ k : Nat, k ≤ s.size ∧ n = .int .i64 k ∧ k + spn p (s.data.toList.drop k) = spn p s.data.toList) (fun n => s.size - (intOf n).toNat)
  case atStart => exact ⟨0, Nat.zero_le _, rfl, by simp⟩
  case round =>
    obtain ⟨k, hk, rfl, hr⟩ := hrel
    have HR := Lib.hid hr
    clear hr
    by_cases hlt : k < s.size
    · have hb : s.data.toList[k]? = some s[k] := by simp [hlt]; rfl
      have HB := Lib.hid hb
      clear hb
      go_wp2_with fail
      refine (HP.out s[k] _).mono ?_
      rintro e w' ⟨rfl, rfl⟩
      cases hp : p s[k]
      · have hv := spn_no HR.out HB.out hp
        have HV := Lib.hid hv
        clear hv hp
        go_wp2
        simp only [Exit.noGoto]
        go_ret
        exact ⟨by rw [HV.out]; simp, rfl⟩
      · have hv := spn_yes HR.out HB.out hp
        have HV := Lib.hid hv
        clear hv hp
        go_wp2
        go_round
        case rel => exact ⟨k + 1, by omega, by go_num, HV.out⟩
        case measure => simp [intOf]; omega
    · have hv := spn_end HR.out (by simp; omega)
      have HV := Lib.hid hv
      clear hv
      go_wp2
      go_ret
      exact ⟨by rw [HV.out]; simp, rfl⟩

theorem tail_data (s : ByteArray) (k : Nat) : (s.extract k s.size).data.toList = s.data.toList.drop k := by
  exact Lib.extract_to_end s k
theorem tail_size (s : ByteArray) (k : Nat) : (s.extract k s.size).size = s.size - k := by
  simp

theorem skip_any (s : ByteArray) (hs : s.size ≤ 140737488351232) (w : World) :
    Calls Tryd.prog 40 #[.string s] w fun e w' => e = .returned (.int .i64 (skp false s.data.toList)) ∧ w = w' := by
  go_enter Tryd.func40, Tryd.ntmps40
  go_wp2_with fail
  go_loop [3] (fun n => ∃ k : Nat, k ≤ s.size ∧ n = .int .i64 k ∧ k + skp false (s.data.toList.drop k) = skp false s.data.toList) (fun n => s.size - (intOf n).toNat)
  case atStart => exact ⟨0, Nat.zero_le _, rfl, by simp⟩
  case round =>
    obtain ⟨k, hk, rfl, hr⟩ := hrel
    by_cases hlt : k < s.size
    · have hdr : s.data.toList.drop k = s[k] :: s.data.toList.drop (k + 1) := by
        rw [List.drop_eq_getElem_cons (by simpa using hlt)]; rfl
      rw [hdr] at hr
      have hsp := spn_le notFeed (s.data.toList.drop k)
      simp at hsp
      have HR := Lib.hid hr
      have HD := Lib.hid hdr
      clear hr hdr
      by_cases h32 : s[k].toNat = 32
      · have t1 : ((s[k].toNat : Int) == 32) = true := by rw [beq_iff_eq]; omega
        have hv : k + 1 + skp false (s.data.toList.drop (k + 1)) = skp false s.data.toList := by have := HR.out; rw [skp_blank (.inl h32)] at this; omega
        have HV := Lib.hid hv
        clear hv h32
        go_wp2
        go_round
        case rel => exact ⟨k + 1, by omega, by go_num, HV.out⟩
        case measure => simp [intOf]; omega
      · have t1 : ((s[k].toNat : Int) == 32) = false := by rw [beq_eq_false_iff_ne]; omega
        by_cases h9 : s[k].toNat = 9
        · have t2 : ((s[k].toNat : Int) == 9) = true := by rw [beq_iff_eq]; omega
          have hv : k + 1 + skp false (s.data.toList.drop (k + 1)) = skp false s.data.toList := by have := HR.out; rw [skp_blank (.inr h9)] at this; omega
          have HV := Lib.hid hv
          clear hv h32 h9
          go_wp2
          go_round
          case rel => exact ⟨k + 1, by omega, by go_num, HV.out⟩
          case measure => simp [intOf]; omega
        · have t2 : ((s[k].toNat : Int) == 9) = false := by rw [beq_eq_false_iff_ne]; omega
          by_cases h35 : s[k].toNat = 35
          · have t3 : ((s[k].toNat : Int) == 35) = true := by rw [beq_iff_eq]; omega
            have hv : k + spn notFeed (s.data.toList.drop k) + skp false (s.data.toList.drop (k + spn notFeed (s.data.toList.drop k))) = skp false s.data.toList := by
              have := HR.out
              rw [skp_hash h35, ← HD.out, List.drop_drop] at this
              omega
            have hpos : 1 ≤ spn notFeed (s.data.toList.drop k) := by
              rw [HD.out, spn_cons, if_pos (by unfold notFeed; rw [h35]; decide)]; omega
            have HV := Lib.hid hv
            clear hv h32 h9 h35
            go_wp2_with fail
            refine (long_any 55 notFeed (enters_of Tryd.func55 (by kernel_rfl) rfl) notFeed_any (s.extract k s.size) (by rw [tail_size]; unfold maxLen; omega) _).mono ?_
            rintro e w' ⟨rfl, rfl⟩
            rw [tail_data]
            generalize spn notFeed (s.data.toList.drop k) = n at hsp hpos HV ⊢
            go_wp2
            go_round
            case rel => exact ⟨k + n, by omega, by go_num, HV.out⟩
            case measure => simp [intOf]; omega
          · have t3 : ((s[k].toNat : Int) == 35) = false := by rw [beq_eq_false_iff_ne]; omega
            have hv : skp false s.data.toList = k := by have := HR.out; rw [skp_other h32 h9 h35] at this; omega
            have HV := Lib.hid hv
            clear hv h32 h9 h35
            go_wp2
            go_ret
            exact ⟨by rw [HV.out]; simp, rfl⟩
    · have hv : skp false s.data.toList = k := by rw [List.drop_eq_nil_of_le (by simp; omega)] at hr; simp [skp] at hr; omega
      have HV := Lib.hid hv
      clear hv hr
      go_wp2
      go_ret
      exact ⟨by rw [HV.out]; simp, rfl⟩

theorem nm_snoc (l : List UInt8) (c : UInt8) : nm (l ++ [c]) = nmStep (nm l) c := by unfold nm; rw [List.foldl_append]; rfl

set_option maxRecDepth 100000 in
theorem number_any (s : ByteArray) (hs : s.size ≤ 140737488351232) (hd : ∀ c ∈ s.data.toList, isDig c = true) (w : World) :
    Calls Tryd.prog 74 #[.string s] w fun e w' => e = .returned (.int .i64 (nm s.data.toList)) ∧ Keeps [] w w' := by
  have hconv := Lib.run_convert_string_bytes w 9 45 5 s Tryd.underlying9 Tryd.underlying45 Tryd.underlying5
  have hcell := Lib.bytesWorld_cell w 5 s
  have K1 : Keeps [] w (Lib.bytesWorld w 5 s) := ⟨rfl, rfl, rfl, by rw [Lib.bytesWorld_size]; omega, fun k hk _ => Lib.bytesWorld_at_old w 5 s k hk⟩
  generalize Lib.bytesWorld w 5 s = w1 at hconv hcell K1
  have HC := Lib.hid hcell
  have HD := Lib.hid hd
  clear hcell hd
  go_enter Tryd.func74, Tryd.ntmps74
  go_wp2_with fail
  go_loopw [3, 9] (fun n i wr => ∃ k : Nat, k ≤ s.size ∧ i = .int .i64 k ∧ n = .int .i64 (nm (s.data.toList.take k)) ∧ wr = w1) (fun _ i _ => s.size - (intOf i).toNat)
  case atStart => exact ⟨0, Nat.zero_le _, rfl, rfl, rfl⟩
  case round =>
    obtain ⟨k, hk, rfl, rfl, rfl⟩ := hrel
    have hle := nm_le (s.data.toList.take k)
    by_cases hlt : k < s.size
    · have hb : s.data.toList[k]? = some s[k] := by simp [hlt]; rfl
      have hdk := HD.out s[k] (List.mem_of_getElem? hb)
      have hc := HC.out k hlt
      rw [show s.data.toList.getD k 0 = s[k] from by simp [List.getD, hb]] at hc
      unfold isDig at hdk
      simp at hdk
      have hns : nm (s.data.toList.take (k + 1)) = nmStep (nm (s.data.toList.take k)) s[k] := by
        rw [List.take_add_one, hb]; exact nm_snoc _ _
      have HNS := Lib.hid hns
      have h48 : 48 ≤ (s[k].toNat : Int) := by omega
      have h57 : (s[k].toNat : Int) ≤ 57 := by omega
      clear hns hb
      go_wp2
      refine ⟨⟨k + 1, by omega, by go_num, ?_, trivial⟩, by simp [intOf]; omega⟩
      rw [HNS.out]
      unfold nmStep
      congr 1
      split <;> omega
    · obtain rfl : k = s.size := by omega
      have hv : s.data.toList.take s.size = s.data.toList := List.take_of_length_le (by simp)
      have HV := Lib.hid hv
      clear hv
      go_wp2
      go_ret
      exact ⟨by rw [HV.out]; simp, K1⟩
theorem mk_take (s : ByteArray) (n : Nat) : s.extract 0 n = ⟨(s.data.toList.take n).toArray⟩ := by
  apply ByteArray.ext
  apply Array.toList_inj.1
  rw [Lib.extract_data]
  simp

def tkV (t : Tk) : Value := .agg #[.int .i64 t.kind, .int .i64 t.at_, .string ⟨t.text.toArray⟩, .int .i64 t.num]
/-- What one tells: of no token the zero one. -/
def oneV (l : List UInt8) : Value := if (tkOf 0 l).kind = 0 then .agg #[.int .i64 0, .int .i64 0, .string ⟨#[]⟩, .int .i64 0] else tkV (tkOf 0 l)

theorem take_all {p : UInt8 → Bool} : ∀ {l : List UInt8}, ∀ c ∈ l.take (spn p l), p c = true
  | [], c, h => by simp at h
  | d :: l, c, h => by
    rw [spn_cons] at h
    split at h
    · rw [List.take_succ_cons] at h
      rcases List.mem_cons.1 h with rfl | h
      · assumption
      · exact take_all c h
    · simp at h

theorem knd_let {c : UInt8} (h : isLet c = true) : knd c = 1 := by unfold knd; rw [if_pos h]
theorem knd_dig {c : UInt8} (h : isLet c = false) (h2 : isDig c = true) : knd c = 2 := by unfold knd; rw [if_neg (by simp [h]), if_pos h2]
theorem knd_eq {c : UInt8} (h : isLet c = false) (h2 : isDig c = false) (h3 : c.toNat = 61) : knd c = 3 := by unfold knd; rw [if_neg (by simp [h]), if_neg (by simp [h2]), if_pos h3]
theorem knd_feed {c : UInt8} (h : isLet c = false) (h2 : isDig c = false) (h3 : c.toNat ≠ 61) (h4 : c.toNat = 10) : knd c = 4 := by unfold knd; rw [if_neg (by simp [h]), if_neg (by simp [h2]), if_neg h3, if_pos h4]
theorem knd_none {c : UInt8} (h : isLet c = false) (h2 : isDig c = false) (h3 : c.toNat ≠ 61) (h4 : c.toNat ≠ 10) : knd c = 0 := by unfold knd; rw [if_neg (by simp [h]), if_neg (by simp [h2]), if_neg h3, if_neg h4]
theorem tln_let {c : UInt8} {l : List UInt8} (h : isLet c = true) : tln (c :: l) = spn isGo (c :: l) := by simp only [tln]; rw [if_pos h]
theorem tln_dig {c : UInt8} {l : List UInt8} (h : isLet c = false) (h2 : isDig c = true) : tln (c :: l) = spn isDig (c :: l) := by simp only [tln]; rw [if_neg (by simp [h]), if_pos h2]
theorem tln_one {c : UInt8} {l : List UInt8} (h : isLet c = false) (h2 : isDig c = false) : tln (c :: l) = 1 := by simp only [tln]; rw [if_neg (by simp [h]), if_neg (by simp [h2])]
theorem oneV_kind {c : UInt8} {l : List UInt8} {k n : Nat} (hk : knd c = k) (h0 : k ≠ 0) (hn : tln (c :: l) = n) : oneV (c :: l) = .agg #[.int .i64 (k : Nat), .int .i64 (0 : Nat), .string ⟨((c :: l).take n).toArray⟩, .int .i64 ((if k = 2 then nm ((c :: l).take n) else 0 : Nat) : Nat)] := by
  have e : tkOf 0 (c :: l) = ⟨k, 0, (c :: l).take n, if k = 2 then nm ((c :: l).take n) else 0⟩ := by
    simp only [tkOf, hk, hn]
  unfold oneV tkV
  rw [e]
  simp only
  rw [if_neg h0]
theorem oneV_none {c : UInt8} {l : List UInt8} (hk : knd c = 0) : oneV (c :: l) = .agg #[.int .i64 0, .int .i64 0, .string ⟨#[]⟩, .int .i64 0] := by
  unfold oneV
  rw [if_pos (by simp only [tkOf, hk])]

set_option maxHeartbeats 1000000 in
theorem one_any (s : ByteArray) (hs : s.size ≤ 140737488351232) (hpos : 0 < s.size) (w : World) :
    Calls Tryd.prog 53 #[.string s] w fun e w' => e = .returned (oneV s.data.toList) ∧ Keeps [] w w' := by
  obtain ⟨c, l, hl⟩ : ∃ c l, s.data.toList = c :: l := by
    cases h : s.data.toList with
    | nil => simp at h; simp [ByteArray.size, h] at hpos
    | cons c l => exact ⟨c, l, rfl⟩
  have h0 : s[0] = c := by
    have : s.data.toList[0]? = some s[0] := by simp [hpos]; rfl
    rw [hl] at this
    simpa using this.symm
  have hm : s.size ≤ maxLen := by unfold maxLen; omega
  have hlen : s.size = s.data.toList.length := by simp
  have hsp := spn_le isGo s.data.toList
  have hsd := spn_le isDig s.data.toList
  have H0 := Lib.hid h0
  have HL := Lib.hid hl
  have HLEN := Lib.hid hlen
  have HM := Lib.hid hm
  clear h0 hlen hm
  clear hl
  have t0 : ((0 : Nat) : Int) < (s.size : Int) := by omega
  have K0 : Keeps [] w (w.alloc (.cells #[.int .i64 0, .int .i64 0, .string ⟨#[]⟩, .int .i64 0] 69)) := (Keeps.refl _ _).alloc _
  have b0 := blk_new w (.cells #[.int .i64 0, .int .i64 0, .string ⟨#[]⟩, .int .i64 0] 69)
  go_enter Tryd.func53, Tryd.ntmps53
  go_wp2_with fail
  refine (letter_any s[0] _).mono ?_
  rintro e w' ⟨rfl, rfl⟩
  rw [H0.out]
  cases h1 : isLet c
  · have H1 := Lib.hid h1
    clear h1
    go_wp2_with fail
    refine (digit_any c _).mono ?_
    rintro e w' ⟨rfl, rfl⟩
    cases h2 : isDig c
    · have H2 := Lib.hid h2
      clear h2
      by_cases h3 : c.toNat = 61
      · have t3 : ((c.toNat : Int) == 61) = true := by rw [beq_iff_eq]; omega
        have hv : oneV s.data.toList = .agg #[.int .i64 3, .int .i64 0, .string (s.extract 0 1), .int .i64 0] := by
          rw [mk_take, HL.out]
          exact oneV_kind (knd_eq H1.out H2.out h3) (by decide) (tln_one H1.out H2.out)
        have HV := Lib.hid hv
        have l1 : (1 : Int) ≤ (s.size : Int) := by omega
        clear hv h3
        go_wp2
        rw [HV.out]
        refine bodyPost_ret (v := .agg #[.int .i64 3, .int .i64 0, .string (s.extract 0 1), .int .i64 0]) (by simp [results, Tryd.results53, go_sem]) rfl ⟨rfl, (Keeps.refl _ _).alloc _⟩
      · have t3 : ((c.toNat : Int) == 61) = false := by rw [beq_eq_false_iff_ne]; omega
        by_cases h4 : c.toNat = 10
        · have t4 : ((c.toNat : Int) == 10) = true := by rw [beq_iff_eq]; omega
          have hv : oneV s.data.toList = .agg #[.int .i64 4, .int .i64 0, .string (s.extract 0 1), .int .i64 0] := by
            rw [mk_take, HL.out]
            exact oneV_kind (knd_feed H1.out H2.out h3 h4) (by decide) (tln_one H1.out H2.out)
          have HV := Lib.hid hv
          have l1 : (1 : Int) ≤ (s.size : Int) := by omega
          clear hv h3 h4
          go_wp2
          rw [HV.out]
          refine bodyPost_ret (v := .agg #[.int .i64 4, .int .i64 0, .string (s.extract 0 1), .int .i64 0]) (by simp [results, Tryd.results53, go_sem]) rfl ⟨rfl, (Keeps.refl _ _).alloc _⟩
        · have t4 : ((c.toNat : Int) == 10) = false := by rw [beq_eq_false_iff_ne]; omega
          have hv : oneV s.data.toList = .agg #[.int .i64 0, .int .i64 0, .string ⟨#[]⟩, .int .i64 0] := by
            rw [HL.out]
            exact oneV_none (knd_none H1.out H2.out h3 h4)
          have HV := Lib.hid hv
          clear hv h3 h4
          go_wp2
          rw [HV.out]
          refine bodyPost_ret (v := .agg #[.int .i64 0, .int .i64 0, .string ⟨#[]⟩, .int .i64 0]) (by simp [results, Tryd.results53, go_sem]) rfl ⟨rfl, (Keeps.refl _ _).alloc _⟩
    · have H2 := Lib.hid h2
      clear h2
      go_wp2_with fail
      refine (long_any 73 isDig (enters_of Tryd.func73 (by kernel_rfl) rfl) digit_any s HM.out _).mono ?_
      rintro e w' ⟨rfl, rfl⟩
      have hsz : (s.extract 0 (spn isDig s.data.toList)).size ≤ 140737488351232 := by simp; omega
      have hall : ∀ c ∈ (s.extract 0 (spn isDig s.data.toList)).data.toList, isDig c = true := by
        rw [mk_take]; exact take_all
      have hv : oneV s.data.toList = .agg #[.int .i64 2, .int .i64 0, .string (s.extract 0 (spn isDig s.data.toList)), .int .i64 (nm (s.extract 0 (spn isDig s.data.toList)).data.toList)] := by
        rw [mk_take, HL.out]
        exact oneV_kind (knd_dig H1.out H2.out) (by decide) (tln_dig H1.out H2.out)
      have HV := Lib.hid (And.intro hv (And.intro hsz hall))
      have hsp' : ((spn isDig s.data.toList : Nat) : Int) ≤ (s.size : Int) := by have := HLEN.out; omega
      clear hv hsz hall
      generalize spn isDig s.data.toList = n at hsd hsp' HV ⊢
      go_wp2_with fail
      refine (number_any (s.extract 0 n) HV.out.2.1 HV.out.2.2 _).mono ?_
      rintro e w2 ⟨rfl, K2⟩
      have hb2 := K2.blk b0 (by simp)
      have c0 := cell_blk hb2 0
      have c1 := cell_blk hb2 1
      have c2 := cell_blk hb2 2
      have c3 := cell_blk hb2 3
      have f0 := free_blk hb2 0
      have f1 := free_blk hb2 1
      have f2 := free_blk hb2 2
      have f3 := free_blk hb2 3
      have HB2 := Lib.hid hb2
      have HK2 := Lib.hid (K0.trans K2)
      clear hb2 K2 K0
      have he : (s.extract 0 n).data.toList = s.data.toList.take n := by rw [mk_take]
      have HE := Lib.hid he
      clear he
      go_wp2
      have hf := blk_set_same (blk_set_same (blk_set_same (blk_set_same HB2.out 0 (.int .i64 2)) 1 (.int .i64 0)) 2 (.string (s.extract 0 n))) 3 (.int .i64 (nm (s.data.toList.take n)))
      have hk := (((HK2.out.setCell w.heap.size 0 (.int .i64 2) (.inr (Nat.le_refl _))).setCell w.heap.size 1 (.int .i64 0) (.inr (Nat.le_refl _))).setCell w.heap.size 2 (.string (s.extract 0 n)) (.inr (Nat.le_refl _))).setCell w.heap.size 3 (.int .i64 (nm (s.data.toList.take n))) (.inr (Nat.le_refl _))
      generalize ((((w2.setCell ⟨w.heap.size, 0, none⟩ (.int .i64 2)).setCell ⟨w.heap.size, 1, none⟩ (.int .i64 0)).setCell ⟨w.heap.size, 2, none⟩ (.string (s.extract 0 n))).setCell ⟨w.heap.size, 3, none⟩ (.int .i64 (nm (s.data.toList.take n)))) = w3 at hf hk ⊢
      simp only [List.setIfInBounds_toArray, List.set_cons_zero, List.set_cons_succ] at hf
      clear c0 c1 c2 c3 f0 f1 f2 f3
      have d0 : w3.cell? ⟨w.heap.size, 0, none⟩ = some (.int .i64 2) := cell_blk hf 0
      have d1 : w3.cell? ⟨w.heap.size, 1, none⟩ = some (.int .i64 0) := cell_blk hf 1
      have d2 : w3.cell? ⟨w.heap.size, 2, none⟩ = some (.string (s.extract 0 n)) := cell_blk hf 2
      have d3 : w3.cell? ⟨w.heap.size, 3, none⟩ = some (.int .i64 (nm (s.data.toList.take n))) := cell_blk hf 3
      rw [HV.out.1, HE.out]
      refine bodyPost_ret (v := .agg #[.int .i64 2, .int .i64 0, .string (s.extract 0 n), .int .i64 (nm (s.data.toList.take n))]) (by simp [results, Tryd.results53, go_sem, d0, d1, d2, d3]) rfl ⟨rfl, hk⟩
  · have H1 := Lib.hid h1
    clear h1
    go_wp2_with fail
    refine (long_any 72 isGo (enters_of Tryd.func72 (by kernel_rfl) rfl) goes_any s HM.out _).mono ?_
    rintro e w' ⟨rfl, rfl⟩
    have hv : oneV s.data.toList = .agg #[.int .i64 1, .int .i64 0, .string (s.extract 0 (spn isGo s.data.toList)), .int .i64 0] := by
      rw [mk_take, HL.out]
      exact oneV_kind (knd_let H1.out) (by decide) (tln_let H1.out)
    have HV := Lib.hid hv
    have hsp' : ((spn isGo s.data.toList : Nat) : Int) ≤ (s.size : Int) := by have := HLEN.out; omega
    clear hv
    generalize spn isGo s.data.toList = n at hsp hsp' HV ⊢
    go_wp2
    rw [HV.out]
    refine bodyPost_ret (v := .agg #[.int .i64 1, .int .i64 0, .string (s.extract 0 n), .int .i64 0]) (by simp [results, Tryd.results53, go_sem]) rfl ⟨rfl, (Keeps.refl _ _).alloc _⟩
theorem word_any (s : ByteArray) (hs : s.size ≤ 140737488351232) (w : World) :
    Calls Tryd.prog 61 #[.string s] w fun e w' => e = .returned (.bool (wordL s.data.toList)) ∧ w = w' := by
  have hm : s.size ≤ maxLen := by unfold maxLen; omega
  have HM := Lib.hid hm
  clear hm
  cases hl : s.data.toList with
  | nil =>
    have h0 : s.toList = [] := by rw [Lib.toList_data]; exact hl
    have h1 : (!s.toList.isEmpty) = false := by rw [h0]; rfl
    have h2 : (s.toList != []) = false := by rw [h0]; rfl
    clear h0
    go_enter Tryd.func61, Tryd.ntmps61
    go_wp2
    go_ret
    exact ⟨rfl, rfl⟩
  | cons c l =>
    have hpos : 0 < s.size := by
      have : s.data.toList.length = s.size := by simp
      rw [hl] at this
      simp at this
      omega
    have h0 : s[0] = c := by
      have : s.data.toList[0]? = some s[0] := by simp [hpos]; rfl
      rw [hl] at this
      simpa using this.symm
    have hne : s.toList.isEmpty = false := by rw [Lib.toList_data, hl]; rfl
    have hne2 : (s.toList != []) = true := by rw [Lib.toList_data, hl]; rfl
    have H0 := Lib.hid h0
    have HL := Lib.hid hl
    clear h0 hl
    have t0 : ((0 : Nat) : Int) < (s.size : Int) := by omega
    go_enter Tryd.func61, Tryd.ntmps61
    go_wp2_with fail
    refine (letter_any s[0] _).mono ?_
    rintro e w' ⟨rfl, rfl⟩
    rw [H0.out]
    cases h1 : isLet c
    · have hv : wordL (c :: l) = false := by simp [wordL, h1]
      have HV := Lib.hid hv
      clear hv h1
      go_wp2
      go_ret
      exact ⟨by rw [HV.out]; simp, rfl⟩
    · have HV : Hid (wordL (c :: l) = decide (spn isGo s.data.toList = s.size)) := Lib.hid (by
        have : s.size = (c :: l).length := by rw [← HL.out]; simp
        rw [HL.out, this, Bool.eq_iff_iff]
        simp [wordL, h1])
      clear h1
      go_wp2_with fail
      refine (long_any 72 isGo (enters_of Tryd.func72 (by kernel_rfl) rfl) goes_any s HM.out _).mono ?_
      rintro e w' ⟨rfl, rfl⟩
      generalize spn isGo s.data.toList = n at HV ⊢
      by_cases hn : n = s.size
      · have t1 : (n == s.size) = true := by rw [beq_iff_eq]; exact hn
        have t2 : ((n : Int) == (s.size : Int)) = true := by rw [beq_iff_eq]; omega
        have HN := Lib.hid hn
        clear hn
        go_wp2
        go_ret
        exact ⟨by rw [HV.out, decide_eq_true HN.out]; simp [t1, t2], rfl⟩
      · have t1 : (n == s.size) = false := by rw [beq_eq_false_iff_ne]; exact hn
        have t2 : ((n : Int) == (s.size : Int)) = false := by rw [beq_eq_false_iff_ne]; omega
        have HN := Lib.hid hn
        clear hn
        go_wp2
        go_ret
        exact ⟨by rw [HV.out, decide_eq_false HN.out]; simp [t1, t2], rfl⟩
end Go.Proofs.YtefdcjmfbjlinaaDoor.Sc
