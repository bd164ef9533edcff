/-
  No cell of these rows narrows 'for every input' (looked for: loops, veiled, ifaces, maps, wideKeys, modest, calm, conditions, laid).
  DERIVED. THE GIVEN ROWS OF THIS SEAT. 3 by the template 'for every input the law returns true; each argument reads behind the call as it read before'; 0 by the template 'total and deterministic' (their statements: YtefdcjmfbjlinaaTotals.lean).
  GIVEN WITH THE SEED: the statements are not yours to turn. If you find one false, say at which input.
  Laid BY PROGRAM, IN A SANDBOX (cutbox-rows.mjs): the forced cells as the released guide's own fill.sh prints them over the translation bee5768b36cf941a… (all of the seat's roots in one cut). By AI agents, Wed Nov 11 2026. No macro, syntax, notation, axiom, sorry.
-/
import Derived.Test.YtefdcjmfbjlinaaChecked
import GoSem.Claim
import GoSem.ClaimJoined
import GoSem.ClaimMapViews
import Derived.JoinedTies
import Derived.KernelRfl
namespace Go.Proofs.Ytefdcjmfbjlinaa
/- THE CELL 'sum', in the pinned program and in every row, IS THE sha256 OF THE DUMP (.gsa) THAT YtefdcjmfbjlinaaProg.lean LOADS. Nothing in Lean hashes anything: it is a label: what it is worth is what the hold of that sum in a sandbox is worth. -/
noncomputable def Try.pinned : Pinned := { name := "ytefdcjmfbjlinaa", sum := "bee5768b36cf941a22969a4077dfc8e4d52714b114aa65f2d8cc57cb77c306de", checked := Try.checked }
namespace Rows
def none {H : Type} : Left H := { results := [], args := [] }

/-- 'cadencylaw05.TextParses': WHATEVER THE INPUT: true; the input reads as it did. -/
def textParsesSpec : ChangeSpec := { name := "textParses", fn := fun _ => fun
  | [d1, d2, d3] => { results := [.lit (.bool true)], args := [d1, d2, d3] }
  | _ => none }
def textParsesRow : OpenClaim := { program := "ytefdcjmfbjlinaa", sum := "bee5768b36cf941a22969a4077dfc8e4d52714b114aa65f2d8cc57cb77c306de", func := "cadency/cadencylaw05.TextParses", spec := "textParses", unfollowed := true, recurses := true, apart := false }
def TextParsesSaid : Prop := textParsesRow.holds Try.pinned (OpenSpec.ofChange textParsesSpec)

/-- ITS FALSE NEIGHBOUR: 'it returns false'. Refute it at one input. -/
def textParsesWrong : ChangeSpec := { name := "textParses", fn := fun _ => fun
  | [d1, d2, d3] => { results := [.lit (.bool false)], args := [d1, d2, d3] }
  | _ => none }
def TextParsesWrongFalsely : Prop := textParsesRow.holds Try.pinned (OpenSpec.ofChange textParsesWrong)

/-- 'cadencylaw05.TextFree': WHATEVER THE INPUT: true; the input reads as it did. -/
def textFreeSpec : ChangeSpec := { name := "textFree", fn := fun _ => fun
  | [d1, d2, d3] => { results := [.lit (.bool true)], args := [d1, d2, d3] }
  | _ => none }
def textFreeRow : OpenClaim := { program := "ytefdcjmfbjlinaa", sum := "bee5768b36cf941a22969a4077dfc8e4d52714b114aa65f2d8cc57cb77c306de", func := "cadency/cadencylaw05.TextFree", spec := "textFree", unfollowed := true, recurses := true, apart := false }
def TextFreeSaid : Prop := textFreeRow.holds Try.pinned (OpenSpec.ofChange textFreeSpec)

/-- ITS FALSE NEIGHBOUR: 'it returns false'. Refute it at one input. -/
def textFreeWrong : ChangeSpec := { name := "textFree", fn := fun _ => fun
  | [d1, d2, d3] => { results := [.lit (.bool false)], args := [d1, d2, d3] }
  | _ => none }
def TextFreeWrongFalsely : Prop := textFreeRow.holds Try.pinned (OpenSpec.ofChange textFreeWrong)

/-- 'cadencylaw05.TextPlaces': WHATEVER THE INPUT: true; the input reads as it did. -/
def textPlacesSpec : ChangeSpec := { name := "textPlaces", fn := fun _ => fun
  | [d1, d2, d3] => { results := [.lit (.bool true)], args := [d1, d2, d3] }
  | _ => none }
def textPlacesRow : OpenClaim := { program := "ytefdcjmfbjlinaa", sum := "bee5768b36cf941a22969a4077dfc8e4d52714b114aa65f2d8cc57cb77c306de", func := "cadency/cadencylaw05.TextPlaces", spec := "textPlaces", unfollowed := true, recurses := true, apart := false }
def TextPlacesSaid : Prop := textPlacesRow.holds Try.pinned (OpenSpec.ofChange textPlacesSpec)

/-- ITS FALSE NEIGHBOUR: 'it returns false'. Refute it at one input. -/
def textPlacesWrong : ChangeSpec := { name := "textPlaces", fn := fun _ => fun
  | [d1, d2, d3] => { results := [.lit (.bool false)], args := [d1, d2, d3] }
  | _ => none }
def TextPlacesWrongFalsely : Prop := textPlacesRow.holds Try.pinned (OpenSpec.ofChange textPlacesWrong)

/- THE SECOND FORM. 'bulk': how many values and letters a reading holds, each counted each time it is reached (what is shared counts as often as it is met; a slice's spare places count too). A statement '..UptoSaid' is the law's where the arguments, and the package variables that the reading takes, are together of bulk at most 1048576: NARROWER than '..Said'. Prove '..Said' where nothing that the law and all that it calls make is longer than what came in: it says more and counts as full. Else prove '..UptoSaid'. A law counts once. -/
mutual
def uptoBulk {H : Type} : DataW H → Nat
  | .lit (.string bytes) => bytes.length + 1
  | .lit _ => 1
  | .nil => 1
  | .ptr d => uptoBulk d + 1
  | .slice elems spare => uptoBulkAll elems + uptoBulkAll spare + 1
  | .agg parts => uptoBulkAll parts + 1
  | .iface _ d => uptoBulk d + 1
  | .map entries => uptoBulkEntries entries + 1
  | .held _ => 1
def uptoBulkAll {H : Type} : List (DataW H) → Nat
  | [] => 0
  | d :: r => uptoBulk d + uptoBulkAll r
def uptoBulkEntries {H : Type} : List (Lit × DataW H) → Nat
  | [] => 0
  | x :: r => uptoBulkEntry x + uptoBulkEntries r
def uptoBulkEntry {H : Type} : Lit × DataW H → Nat
  | (.string bytes, d) => bytes.length + uptoBulk d + 1
  | (_, d) => uptoBulk d + 1
 end
def uptoSmall : (H : Type) → List (DataW H) → Bool := fun _ ds => decide (uptoBulkAll ds ≤ 1048576)
def OpenSpec.upto (s : _root_.Go.ChangeSpec) : _root_.Go.OpenSpec := { _root_.Go.OpenSpec.ofChange s with cond := some uptoSmall }

/-- 'cadencylaw05.TextParses', WHERE WHAT IT READS IS OF BULK AT MOST 1048576: true; the input reads as it did. -/
def textParsesUptoRow : OpenClaim := { program := "ytefdcjmfbjlinaa", sum := "bee5768b36cf941a22969a4077dfc8e4d52714b114aa65f2d8cc57cb77c306de", func := "cadency/cadencylaw05.TextParses", spec := "textParses", unfollowed := true, recurses := true, apart := false, narrowed := true }
def TextParsesUptoSaid : Prop := textParsesUptoRow.holds Try.pinned (OpenSpec.upto textParsesSpec)

/-- 'cadencylaw05.TextFree', WHERE WHAT IT READS IS OF BULK AT MOST 1048576: true; the input reads as it did. -/
def textFreeUptoRow : OpenClaim := { program := "ytefdcjmfbjlinaa", sum := "bee5768b36cf941a22969a4077dfc8e4d52714b114aa65f2d8cc57cb77c306de", func := "cadency/cadencylaw05.TextFree", spec := "textFree", unfollowed := true, recurses := true, apart := false, narrowed := true }
def TextFreeUptoSaid : Prop := textFreeUptoRow.holds Try.pinned (OpenSpec.upto textFreeSpec)

/-- 'cadencylaw05.TextPlaces', WHERE WHAT IT READS IS OF BULK AT MOST 1048576: true; the input reads as it did. -/
def textPlacesUptoRow : OpenClaim := { program := "ytefdcjmfbjlinaa", sum := "bee5768b36cf941a22969a4077dfc8e4d52714b114aa65f2d8cc57cb77c306de", func := "cadency/cadencylaw05.TextPlaces", spec := "textPlaces", unfollowed := true, recurses := true, apart := false, narrowed := true }
def TextPlacesUptoSaid : Prop := textPlacesUptoRow.holds Try.pinned (OpenSpec.upto textPlacesSpec)

end Rows
end Go.Proofs.Ytefdcjmfbjlinaa
