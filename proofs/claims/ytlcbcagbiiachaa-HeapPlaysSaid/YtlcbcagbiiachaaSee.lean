/- see: one more thing that was told. -/
import Derived.Test.YtlcbcagbiiachaaPush
namespace Go.Proofs.Ytlcbcagbiiachaa
open Go.RowKit

abbrev ei2 : (Int × Int) → List Value := fun p => [Value.int .i64 p.1, Value.int .i64 p.2]
theorem ei2_len (p : Int × Int) : (ei2 p).length = 2 := rfl
/-- What was told, at block s (its row lies in G). -/
def Seen (w : World) (s : Nat) (G : List Nat) (l : List (Int × Int)) : Prop :=
  ∃ v, w.heap[s]? = some (.cells #[v] 65 (0, 0)) ∧ w.ownsRow 0 45 2 v l.length (flat ei2 l) ∧ (∀ k, v.ownBlock = some k → k ∈ G ∧ k ≠ s) ∧ (∀ k ∈ G, v.ownBlock = some k)
theorem infoI45 : (Try.prog.info? 45).map (fun i => (i.zero, i.size, i.bytes)) = some (some (.agg #[.int .i64 0, .int .i64 0]), 2, 16) := by kernel_rfl
theorem Seen.new {w : World} {s : Nat} (h : w.heap[s]? = some (.cells #[.slice none 0 0] 65 (0, 0))) : Seen w s [] [] := ⟨_, h, World.ownsRow_nil w 0 45 2, (fun k e => by simp [Value.ownBlock] at e), by simp⟩
theorem ownsRow_same {w w' : World} {base : Nat} {e : TypeId} {sz n : Nat} {v : Value} {xs : List Value} (h : w.ownsRow base e sz v n xs) (k : ∀ g, v.ownBlock = some g → w'.heap[g]? = w.heap[g]?) : w'.ownsRow base e sz v n xs := by
  refine ⟨h.1, ?_⟩
  rcases h.2 with h2 | ⟨g, cap, cur, hv, h3, h4, h5⟩
  · exact .inl h2
  · refine .inr ⟨g, cap, cur, hv, h3, ?_, h5⟩
    rw [k g (by rw [hv]; rfl)]
    exact h4
theorem Seen.same {w w' : World} {s : Nat} {G : List Nat} {l : List (Int × Int)} (h : Seen w s G l) (k : ∀ g, g = s ∨ g ∈ G → w'.heap[g]? = w.heap[g]?) : Seen w' s G l := by
  obtain ⟨v, h1, h2, h3⟩ := h
  exact ⟨v, (k s (.inl rfl)).trans h1, ownsRow_same h2 (fun g hg => k g (.inr (h3.1 g hg).1)), h3⟩
theorem Seen.cells {w : World} {s : Nat} {G : List Nat} {l : List (Int × Int)} (h : Seen w s G l) : ∀ k ∈ s :: G, ∃ cs T fr, w.heap[k]? = some (.cells cs T fr) := by
  obtain ⟨v, h1, h2, h3, h4⟩ := h
  intro k hk
  rcases List.mem_cons.1 hk with rfl | hk
  · exact ⟨_, _, _, h1⟩
  · have e := h4 k hk
    rcases h2.2 with ⟨rfl, _⟩ | ⟨g', cap, cur, rfl, _, h5, _⟩
    · cases e
    · have e : g' = k := by simpa [Value.ownBlock] using e
      subst e
      exact ⟨_, _, _, h5⟩

set_option maxHeartbeats 1000000 in
theorem see_any (s : Nat) (G : List Nat) (l : List (Int × Int)) (x : Int × Int) (w : World) (h : Seen w s G l) (hn : l.length < 900000) :
    Calls Try.prog 32 #[.pointer (some ⟨s, 0, none⟩), .agg #[.int .i64 x.1, .int .i64 x.2]] w fun e w' => e = .returned (.tuple #[]) ∧ ∃ G' : List Nat, Seen w' s G' (l ++ [x]) ∧ Keeps (s :: G) w w' ∧ ∀ k ∈ G', k ∈ G ∨ w.heap.size ≤ k := by
  obtain ⟨v, hb, hown, hv, -⟩ := h
  obtain ⟨i0, hi, hz0, hz1, hz2⟩ := info_parts infoI45
  have hbl := blk_lt hb
  have HB := Lib.hid hb
  have HV := Lib.hid hv
  have HOWN := Lib.hid hown
  clear hb hv hown
  have hvb : v.ownBlock ≠ some s := fun e => (HV.out s e).2 rfl
  have hl63 : l.length + 1 ≤ maxLen := by unfold maxLen; omega
  have hlby : (l.length + 1) * 16 ≤ 140737488355328 := by omega
  go_enter Try.func32, Try.ntmps32
  go_wp2_with fail
  have K0 : Keeps [] w (w.alloc (.cells #[.int .i64 x.1, .int .i64 x.2] 45)) := (Keeps.refl _ _).alloc _
  have hbx := blk_new w (.cells #[.int .i64 x.1, .int .i64 x.2] 45)
  have HB0 := Lib.hid (blk_alloc HB.out (.cells #[.int .i64 x.1, .int .i64 x.2] 45))
  have HOWN0 := Lib.hid (HOWN.out.alloc (.cells #[.int .i64 x.1, .int .i64 x.2] 45))
  clear HB HOWN
  generalize (w.alloc (.cells #[.int .i64 x.1, .int .i64 x.2] 45)) = w0 at K0 hbx HB0 HOWN0 ⊢
  have hsz0 := K0.size
  obtain ⟨bx, hbxe⟩ : ∃ bx, bx = w.heap.size := ⟨_, rfl⟩
  rw [← hbxe] at hbx
  have HBXE := Lib.hid hbxe
  try simp only [← hbxe]
  clear hbxe
  have x0 := cell_blk hbx 0
  have x1 := cell_blk hbx 1
  have h0 := cell_blk HB0.out 0
  have f0 := free_blk HB0.out 0
  have n1 := World.new_ne w0 _ h0
  have n4 := World.new_ne w0 _ x0
  have hbl0 : s < w0.heap.size := blk_lt HB0.out
  have hblx : bx < w0.heap.size := blk_lt hbx
  have n3 := fun (c : Array Value) (t : TypeId) => frozen?_alloc_cells w0 c t ⟨s, 0, none⟩
  clear hbx
  go_region_law
    ((refine step_append_lies _ (by rfl) _ _ 56 (by rfl) 0 45 i0 _ 2 16 Try.underlying56 hi hz0 hz1 hz2 (by rfl) (by decide) v l.length (flat ei2 l) (by rfl) (by exact HOWN0.out.alloc _) ⟨w0.heap.size, 0, none⟩ 1 1 (ei2 x) (by rfl) (by rfl) (by exact World.news_of_block (blk_new w0 _)) (by simp [ei2, Value.oneCell']) (by decide) hl63 hlby (Nat.zero_le _) (w0.heap.size + 1) (by simp) ?_; intro g cap w3 hown3 hgrow3 hat3 hlt3; have hb3 := Lib.hid (blk_grown hgrow3 (blk_alloc HB0.out _) hvb); have hc3 := cell_blk hb3.out 0; have hf3 := free_blk hb3.out 0))
  all_goals
    clear h0 f0 n1 n3 n4 x0 x1
    have HROW := Lib.hid hown3
    have HG := Lib.hid hgrow3
    have HAT := Lib.hid hat3
    clear hown3 hgrow3 hat3
    have hgb : g ≠ s := by
      rcases HAT.out with h' | h'
      · exact (HV.out g h').2
      · omega
    go_wp2
    go_returns
    have hb4 := blk_set_same hb3.out 0 (.slice (some ⟨g, 0, none⟩) (l.length + 1) cap)
    refine ⟨rfl, [g], ⟨.slice (some ⟨g, 0, none⟩) (l.length + 1) cap, by simpa using hb4, ?_, ?_, (fun k hk => by simp at hk; subst hk; rfl)⟩, ?_, ?_⟩
    · have e : flat ei2 (l ++ [x]) = flat ei2 l ++ ei2 x := by simp [flat]
      rw [e, List.length_append]
      exact ownsRow_same HROW.out (fun q hq => by
        have : q = g := by simpa [Value.ownBlock] using hq.symm
        subst this
        exact Below.heap_setCell _ _ _ _ (by simpa using hgb))
    · intro k hk
      have : k = g := by simpa [Value.ownBlock] using hk.symm
      subst this
      exact ⟨by simp, hgb⟩
    · refine (K0.mono (by simp)).trans ?_
      exact (Keeps.grown ((Keeps.refl (s :: G) w0).alloc _).drew HG.out (fun k e => .inl (by have := (HV.out k e).1; simp [this]))).setCell s 0 _ (.inl (by simp))
    · intro k hk
      simp at hk
      subst hk
      rcases HAT.out with h' | h'
      · exact .inl (HV.out k h').1
      · exact .inr (by omega)
end Go.Proofs.Ytlcbcagbiiachaa
