/-
  No cell of these rows narrows 'for every input' (looked for: loops, veiled, ifaces, maps, wideKeys, modest, calm, conditions, laid).
  DERIVED. THE GIVEN ROWS OF THIS SEAT. 6 by the template 'for every input the law returns true; each argument reads behind the call as it read before'; 0 by the template 'total and deterministic' (their statements: YtehlabphhcdooaaTotals.lean).
  GIVEN WITH THE SEED: the statements are not yours to turn. If you find one false, say at which input.
  Laid BY PROGRAM, IN A SANDBOX (cutbox-rows.mjs): the forced cells as the released guide's own fill.sh prints them over the translation c65af27fff20417b… (all of the seat's roots in one cut). By AI agents, Wed Nov 11 2026. No macro, syntax, notation, axiom, sorry.
-/
import Derived.Test.YtehlabphhcdooaaChecked
import GoSem.Claim
import GoSem.ClaimJoined
import GoSem.ClaimMapViews
import Derived.JoinedTies
import Derived.KernelRfl
namespace Go.Proofs.Ytehlabphhcdooaa
/- THE CELL 'sum', in the pinned program and in every row, IS THE sha256 OF THE DUMP (.gsa) THAT YtehlabphhcdooaaProg.lean LOADS. Nothing in Lean hashes anything: it is a label: what it is worth is what the hold of that sum in a sandbox is worth. -/
noncomputable def Try.pinned : Pinned := { name := "ytehlabphhcdooaa", sum := "c65af27fff20417b15a14262dacc0a18f8e48b0df8b3edcce8659481db75ced1", checked := Try.checked }
namespace Rows
def none {H : Type} : Left H := { results := [], args := [] }

/-- 'cadencylaw03.ScanJoins': WHATEVER THE INPUT: true; the input reads as it did. -/
def scanJoinsSpec : ChangeSpec := { name := "scanJoins", fn := fun _ => fun
  | [d1, d2] => { results := [.lit (.bool true)], args := [d1, d2] }
  | _ => none }
def scanJoinsRow : OpenClaim := { program := "ytehlabphhcdooaa", sum := "c65af27fff20417b15a14262dacc0a18f8e48b0df8b3edcce8659481db75ced1", func := "cadency/cadencylaw03.ScanJoins", spec := "scanJoins", unfollowed := true, recurses := true, apart := false }
def ScanJoinsSaid : Prop := scanJoinsRow.holds Try.pinned (OpenSpec.ofChange scanJoinsSpec)

/-- ITS FALSE NEIGHBOUR: 'it returns false'. Refute it at one input. -/
def scanJoinsWrong : ChangeSpec := { name := "scanJoins", fn := fun _ => fun
  | [d1, d2] => { results := [.lit (.bool false)], args := [d1, d2] }
  | _ => none }
def ScanJoinsWrongFalsely : Prop := scanJoinsRow.holds Try.pinned (OpenSpec.ofChange scanJoinsWrong)

/-- 'cadencylaw03.ScanNums': WHATEVER THE INPUT: true; the input reads as it did. -/
def scanNumsSpec : ChangeSpec := { name := "scanNums", fn := fun _ => fun
  | [d1, d2] => { results := [.lit (.bool true)], args := [d1, d2] }
  | _ => none }
def scanNumsRow : OpenClaim := { program := "ytehlabphhcdooaa", sum := "c65af27fff20417b15a14262dacc0a18f8e48b0df8b3edcce8659481db75ced1", func := "cadency/cadencylaw03.ScanNums", spec := "scanNums", unfollowed := true, recurses := true, apart := false }
def ScanNumsSaid : Prop := scanNumsRow.holds Try.pinned (OpenSpec.ofChange scanNumsSpec)

/-- ITS FALSE NEIGHBOUR: 'it returns false'. Refute it at one input. -/
def scanNumsWrong : ChangeSpec := { name := "scanNums", fn := fun _ => fun
  | [d1, d2] => { results := [.lit (.bool false)], args := [d1, d2] }
  | _ => none }
def ScanNumsWrongFalsely : Prop := scanNumsRow.holds Try.pinned (OpenSpec.ofChange scanNumsWrong)

/-- 'cadencylaw03.ScanStops': WHATEVER THE INPUT: true; the input reads as it did. -/
def scanStopsSpec : ChangeSpec := { name := "scanStops", fn := fun _ => fun
  | [d1, d2] => { results := [.lit (.bool true)], args := [d1, d2] }
  | _ => none }
def scanStopsRow : OpenClaim := { program := "ytehlabphhcdooaa", sum := "c65af27fff20417b15a14262dacc0a18f8e48b0df8b3edcce8659481db75ced1", func := "cadency/cadencylaw03.ScanStops", spec := "scanStops", unfollowed := true, recurses := true, apart := false }
def ScanStopsSaid : Prop := scanStopsRow.holds Try.pinned (OpenSpec.ofChange scanStopsSpec)

/-- ITS FALSE NEIGHBOUR: 'it returns false'. Refute it at one input. -/
def scanStopsWrong : ChangeSpec := { name := "scanStops", fn := fun _ => fun
  | [d1, d2] => { results := [.lit (.bool false)], args := [d1, d2] }
  | _ => none }
def ScanStopsWrongFalsely : Prop := scanStopsRow.holds Try.pinned (OpenSpec.ofChange scanStopsWrong)

/-- 'cadencylaw03.ScanTells': WHATEVER THE INPUT: true; the input reads as it did. -/
def scanTellsSpec : ChangeSpec := { name := "scanTells", fn := fun _ => fun
  | [d] => { results := [.lit (.bool true)], args := [d] }
  | _ => none }
def scanTellsRow : OpenClaim := { program := "ytehlabphhcdooaa", sum := "c65af27fff20417b15a14262dacc0a18f8e48b0df8b3edcce8659481db75ced1", func := "cadency/cadencylaw03.ScanTells", spec := "scanTells", unfollowed := true, recurses := true, apart := false }
def ScanTellsSaid : Prop := scanTellsRow.holds Try.pinned (OpenSpec.ofChange scanTellsSpec)

/-- ITS FALSE NEIGHBOUR: 'it returns false'. Refute it at one input. -/
def scanTellsWrong : ChangeSpec := { name := "scanTells", fn := fun _ => fun
  | [d] => { results := [.lit (.bool false)], args := [d] }
  | _ => none }
def ScanTellsWrongFalsely : Prop := scanTellsRow.holds Try.pinned (OpenSpec.ofChange scanTellsWrong)

/-- 'cadencylaw03.ScanPlaces': WHATEVER THE INPUT: true; the input reads as it did. -/
def scanPlacesSpec : ChangeSpec := { name := "scanPlaces", fn := fun _ => fun
  | [d] => { results := [.lit (.bool true)], args := [d] }
  | _ => none }
def scanPlacesRow : OpenClaim := { program := "ytehlabphhcdooaa", sum := "c65af27fff20417b15a14262dacc0a18f8e48b0df8b3edcce8659481db75ced1", func := "cadency/cadencylaw03.ScanPlaces", spec := "scanPlaces", unfollowed := true, recurses := true, apart := false }
def ScanPlacesSaid : Prop := scanPlacesRow.holds Try.pinned (OpenSpec.ofChange scanPlacesSpec)

/-- ITS FALSE NEIGHBOUR: 'it returns false'. Refute it at one input. -/
def scanPlacesWrong : ChangeSpec := { name := "scanPlaces", fn := fun _ => fun
  | [d] => { results := [.lit (.bool false)], args := [d] }
  | _ => none }
def ScanPlacesWrongFalsely : Prop := scanPlacesRow.holds Try.pinned (OpenSpec.ofChange scanPlacesWrong)

/-- 'cadencylaw03.ScanWords': WHATEVER THE INPUT: true; the input reads as it did. -/
def scanWordsSpec : ChangeSpec := { name := "scanWords", fn := fun _ => fun
  | [d1, d2] => { results := [.lit (.bool true)], args := [d1, d2] }
  | _ => none }
def scanWordsRow : OpenClaim := { program := "ytehlabphhcdooaa", sum := "c65af27fff20417b15a14262dacc0a18f8e48b0df8b3edcce8659481db75ced1", func := "cadency/cadencylaw03.ScanWords", spec := "scanWords", unfollowed := true, recurses := true, apart := false }
def ScanWordsSaid : Prop := scanWordsRow.holds Try.pinned (OpenSpec.ofChange scanWordsSpec)

/-- ITS FALSE NEIGHBOUR: 'it returns false'. Refute it at one input. -/
def scanWordsWrong : ChangeSpec := { name := "scanWords", fn := fun _ => fun
  | [d1, d2] => { results := [.lit (.bool false)], args := [d1, d2] }
  | _ => none }
def ScanWordsWrongFalsely : Prop := scanWordsRow.holds Try.pinned (OpenSpec.ofChange scanWordsWrong)

/- THE SECOND FORM. 'bulk': how many values and letters a reading holds, each counted each time it is reached (what is shared counts as often as it is met; a slice's spare places count too). A statement '..UptoSaid' is the law's where the arguments, and the package variables that the reading takes, are together of bulk at most 1048576: NARROWER than '..Said'. Prove '..Said' where nothing that the law and all that it calls make is longer than what came in: it says more and counts as full. Else prove '..UptoSaid'. A law counts once. -/
mutual
def uptoBulk {H : Type} : DataW H → Nat
  | .lit (.string bytes) => bytes.length + 1
  | .lit _ => 1
  | .nil => 1
  | .ptr d => uptoBulk d + 1
  | .slice elems spare => uptoBulkAll elems + uptoBulkAll spare + 1
  | .agg parts => uptoBulkAll parts + 1
  | .iface _ d => uptoBulk d + 1
  | .map entries => uptoBulkEntries entries + 1
  | .held _ => 1
def uptoBulkAll {H : Type} : List (DataW H) → Nat
  | [] => 0
  | d :: r => uptoBulk d + uptoBulkAll r
def uptoBulkEntries {H : Type} : List (Lit × DataW H) → Nat
  | [] => 0
  | x :: r => uptoBulkEntry x + uptoBulkEntries r
def uptoBulkEntry {H : Type} : Lit × DataW H → Nat
  | (.string bytes, d) => bytes.length + uptoBulk d + 1
  | (_, d) => uptoBulk d + 1
 end
def uptoSmall : (H : Type) → List (DataW H) → Bool := fun _ ds => decide (uptoBulkAll ds ≤ 1048576)
def OpenSpec.upto (s : _root_.Go.ChangeSpec) : _root_.Go.OpenSpec := { _root_.Go.OpenSpec.ofChange s with cond := some uptoSmall }

/-- 'cadencylaw03.ScanJoins', WHERE WHAT IT READS IS OF BULK AT MOST 1048576: true; the input reads as it did. -/
def scanJoinsUptoRow : OpenClaim := { program := "ytehlabphhcdooaa", sum := "c65af27fff20417b15a14262dacc0a18f8e48b0df8b3edcce8659481db75ced1", func := "cadency/cadencylaw03.ScanJoins", spec := "scanJoins", unfollowed := true, recurses := true, apart := false, narrowed := true }
def ScanJoinsUptoSaid : Prop := scanJoinsUptoRow.holds Try.pinned (OpenSpec.upto scanJoinsSpec)

/-- 'cadencylaw03.ScanNums', WHERE WHAT IT READS IS OF BULK AT MOST 1048576: true; the input reads as it did. -/
def scanNumsUptoRow : OpenClaim := { program := "ytehlabphhcdooaa", sum := "c65af27fff20417b15a14262dacc0a18f8e48b0df8b3edcce8659481db75ced1", func := "cadency/cadencylaw03.ScanNums", spec := "scanNums", unfollowed := true, recurses := true, apart := false, narrowed := true }
def ScanNumsUptoSaid : Prop := scanNumsUptoRow.holds Try.pinned (OpenSpec.upto scanNumsSpec)

/-- 'cadencylaw03.ScanStops', WHERE WHAT IT READS IS OF BULK AT MOST 1048576: true; the input reads as it did. -/
def scanStopsUptoRow : OpenClaim := { program := "ytehlabphhcdooaa", sum := "c65af27fff20417b15a14262dacc0a18f8e48b0df8b3edcce8659481db75ced1", func := "cadency/cadencylaw03.ScanStops", spec := "scanStops", unfollowed := true, recurses := true, apart := false, narrowed := true }
def ScanStopsUptoSaid : Prop := scanStopsUptoRow.holds Try.pinned (OpenSpec.upto scanStopsSpec)

/-- 'cadencylaw03.ScanTells', WHERE WHAT IT READS IS OF BULK AT MOST 1048576: true; the input reads as it did. -/
def scanTellsUptoRow : OpenClaim := { program := "ytehlabphhcdooaa", sum := "c65af27fff20417b15a14262dacc0a18f8e48b0df8b3edcce8659481db75ced1", func := "cadency/cadencylaw03.ScanTells", spec := "scanTells", unfollowed := true, recurses := true, apart := false, narrowed := true }
def ScanTellsUptoSaid : Prop := scanTellsUptoRow.holds Try.pinned (OpenSpec.upto scanTellsSpec)

/-- 'cadencylaw03.ScanPlaces', WHERE WHAT IT READS IS OF BULK AT MOST 1048576: true; the input reads as it did. -/
def scanPlacesUptoRow : OpenClaim := { program := "ytehlabphhcdooaa", sum := "c65af27fff20417b15a14262dacc0a18f8e48b0df8b3edcce8659481db75ced1", func := "cadency/cadencylaw03.ScanPlaces", spec := "scanPlaces", unfollowed := true, recurses := true, apart := false, narrowed := true }
def ScanPlacesUptoSaid : Prop := scanPlacesUptoRow.holds Try.pinned (OpenSpec.upto scanPlacesSpec)

/-- 'cadencylaw03.ScanWords', WHERE WHAT IT READS IS OF BULK AT MOST 1048576: true; the input reads as it did. -/
def scanWordsUptoRow : OpenClaim := { program := "ytehlabphhcdooaa", sum := "c65af27fff20417b15a14262dacc0a18f8e48b0df8b3edcce8659481db75ced1", func := "cadency/cadencylaw03.ScanWords", spec := "scanWords", unfollowed := true, recurses := true, apart := false, narrowed := true }
def ScanWordsUptoSaid : Prop := scanWordsUptoRow.holds Try.pinned (OpenSpec.upto scanWordsSpec)

end Rows
end Go.Proofs.Ytehlabphhcdooaa
