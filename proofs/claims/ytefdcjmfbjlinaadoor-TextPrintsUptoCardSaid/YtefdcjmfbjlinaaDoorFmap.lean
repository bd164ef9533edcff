/- A map from words to functions: what it holds, by a plain function of the key. -/
import Derived.Test.YtefdcjmfbjlinaaDoorRd
import Derived.Maps.Own
import Derived.Maps.OwnOps
import Derived.Maps.OwnSet
import Derived.Maps.Views
import Derived.Laws.EntriesVeiled
namespace Go.Proofs.YtefdcjmfbjlinaaDoor.Sc
open Go.RowKit Go.Shelf Go.Maps

theorem lawS : Keyed Tryd.prog 9 := string_keyed Tryd.underlying9
theorem zeroF (w : World) : (zeroValue 87).run Tryd.prog w = .ok .nilFunc w := by kernel_rfl
def heldR (v : Value) : Option (DataW Value × List MemPlace) := some (.held v, [])
/-- Block b is a map of at most n entries that tells f of a key. -/
def IsMapF (w : World) (b n : Nat) (f : Lit → Value) : Prop :=
  ∃ D : DataW Value, w.ownsMap Tryd.prog 9 heldR b n D ∧ IsMap D ∧ ∀ k, WideAt.IsKeyLit k → D.atKey k (.held .nilFunc) = .held (f k)
theorem IsMapF.made (w : World) : IsMapF (w.alloc (.map #[] 0)) w.heap.size 0 (fun _ => .nilFunc) :=
  ⟨.map [], World.ownsMap_made _ _ _ _, isMap_empty, fun _ _ => rfl⟩
theorem IsMapF.lt {w : World} {b n : Nat} {f : Lit → Value} (h : IsMapF w b n f) : b < w.heap.size := by
  obtain ⟨D, h1, _⟩ := h
  exact h1.lt
theorem IsMapF.keeps {w w' : World} {b n : Nat} {f : Lit → Value} {F : List Nat} (h : IsMapF w b n f) (k : Keeps F w w') (hb : b ∉ F) : IsMapF w' b n f := by
  have hl := h.lt
  obtain ⟨D, ⟨es, clock, h1, F1, hs, hD⟩, h2⟩ := h
  exact ⟨D, ⟨es, clock, (k.block b hl hb).trans h1, F1, hs, hD⟩, h2⟩
theorem IsMapF.congr {w : World} {b n : Nat} {f g : Lit → Value} (h : IsMapF w b n f) (hfg : ∀ k, WideAt.IsKeyLit k → f k = g k) : IsMapF w b n g := by
  obtain ⟨D, h1, h2, h3⟩ := h
  exact ⟨D, h1, h2, fun k hk => by rw [h3 k hk, hfg k hk]⟩
set_option maxRecDepth 100000 in
theorem runF {w : World} {b n : Nat} {f : Lit → Value} (h : IsMapF w b n f) {key : Value} {kl : Lit} (hk : keyOf Tryd.prog 9 key = some kl) (hkl : WideAt.IsKeyLit kl) :
    (Instr.lookup 84 (.map (some b)) key false).run Tryd.prog w = .ok (f kl) w := by
  obtain ⟨D, h1, h2, h3⟩ := h
  obtain ⟨v, ps, hr, hv⟩ := h1.lookup lawS Tryd.underlying84 (zeroF w) (zd := .held .nilFunc) (zp := []) rfl hk
  rw [h3 kl hkl] at hv
  unfold heldR at hv
  injection hv with hv
  injection hv with hv _
  injection hv with hv
  rw [← hv]
  exact hr
theorem putF {w : World} {b n : Nat} {f f' : Lit → Value} (h : IsMapF w b n f) (hn : n < maxLen) {key : Value} {kl : Lit} (hk : keyOf Tryd.prog 9 key = some kl) (hkl : WideAt.IsKeyLit kl) {v : Value} (hv : f' kl = v) (hf : ∀ k, WideAt.IsKeyLit k → k ≠ kl → f' k = f k) :
    ∃ w', (Instr.mapUpdate 84 (.map (some b)) key v).run Tryd.prog w = .ok () w' ∧ IsMapF w' b (n + 1) f' ∧ Keeps [b] w w' := by
  obtain ⟨D, h1, h2, h3⟩ := h
  obtain ⟨w', hr, h', hg'⟩ := h1.update lawS Tryd.underlying84 hn hk (d := .held v) (ps := []) rfl
  refine ⟨w', hr, ⟨_, h', h'.isMap, fun k hkk => ?_⟩, ⟨hg'.os, hg'.tape, hg'.output, hg'.size, fun j hj hn => hg'.block j hj (by simpa using hn)⟩⟩
  by_cases e : k = kl
  · subst e
    rw [atKey_put_same h2 hkl, hv]
  · rw [atKey_put_other e, h3 k hkk, hf k hkk e]
theorem delF {w : World} {b n : Nat} {f f' : Lit → Value} (h : IsMapF w b n f) {key : Value} {kl : Lit} (hk : keyOf Tryd.prog 9 key = some kl) (_hkl : WideAt.IsKeyLit kl) (hv : f' kl = .nilFunc) (hf : ∀ k, WideAt.IsKeyLit k → k ≠ kl → f' k = f k) (ty : TypeId) :
    ∃ w', (Builtin.delete_ #[84, 9] ty #[.map (some b), key]).run Tryd.prog w = .ok (.tuple #[]) w' ∧ IsMapF w' b n f' ∧ Keeps [b] w w' := by
  obtain ⟨D, h1, h2, h3⟩ := h
  obtain ⟨w', hr, h', ht'⟩ := h1.drop lawS Tryd.underlying84 hk ty
  have hg' := ht'.grown
  refine ⟨w', hr, ⟨_, h', h'.isMap, fun k hkk => ?_⟩, ⟨hg'.os, hg'.tape, hg'.output, hg'.size, fun j hj hn => hg'.block j hj (by simpa using hn)⟩⟩
  by_cases e : k = kl
  · subst e
    rw [atKey_del_same, hv]
  · rw [atKey_del_other e, h3 k hkk, hf k hkk e]

/-- Which field a word is: c, t, d, j, q, p. -/
def fldI (l : List UInt8) : Option Nat :=
  if l = [99] then some 0 else if l = [116] then some 1 else if l = [100] then some 2 else if l = [106] then some 3 else if l = [113] then some 4 else if l = [112] then some 5 else none
/-- The function that sets a field; its own block: B. -/
def fldV (B : Nat → Nat) (i : Nat) : Value := if i = 5 then .func (.func 58) #[] #[.pointer (some ⟨B 5, 0, none⟩)] else .func (.func 57) #[] #[.pointer (some ⟨B i, 0, none⟩)]
def mapF (B : Nat → Nat) (rem : Nat → Bool) (k : Lit) : Value :=
  match k with
  | .string l => match fldI l with
    | some i => if rem i then fldV B i else .nilFunc
    | none => .nilFunc
  | _ => .nilFunc
end Go.Proofs.YtefdcjmfbjlinaaDoor.Sc
