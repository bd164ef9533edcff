/-
  No cell of these rows narrows 'for every input' (looked for: loops, veiled, ifaces, maps, wideKeys, modest, calm, conditions, laid).
  DERIVED. THE GIVEN ROWS OF THIS SEAT. 7 by the template 'for every input the law returns true; each argument reads behind the call as it read before'; 0 by the template 'total and deterministic' (their statements: YtcdmgalhboijcaaTotals.lean).
  GIVEN WITH THE SEED: the statements are not yours to turn. If you find one false, say at which input.
  Laid BY PROGRAM, IN A SANDBOX (cutbox-rows.mjs): the forced cells as the released guide's own fill.sh prints them over the translation df61a93fe11e7d61… (all of the seat's roots in one cut). By AI agents, Wed Nov 11 2026. No macro, syntax, notation, axiom, sorry.
-/
import Derived.Test.YtcdmgalhboijcaaChecked
import GoSem.Claim
import GoSem.ClaimJoined
import GoSem.ClaimMapViews
import Derived.JoinedTies
import Derived.KernelRfl
namespace Go.Proofs.Ytcdmgalhboijcaa
/- THE CELL 'sum', in the pinned program and in every row, IS THE sha256 OF THE DUMP (.gsa) THAT YtcdmgalhboijcaaProg.lean LOADS. Nothing in Lean hashes anything: it is a label: what it is worth is what the hold of that sum in a sandbox is worth. -/
noncomputable def Try.pinned : Pinned := { name := "ytcdmgalhboijcaa", sum := "df61a93fe11e7d612bc9375fb08b2a3630f2617d938373d90aaa27f849f32fc6", checked := Try.checked }
namespace Rows
def none {H : Type} : Left H := { results := [], args := [] }

/-- 'cadencylaw08.ScriptDecodes': WHATEVER THE INPUT: true; the input reads as it did. -/
def scriptDecodesSpec : ChangeSpec := { name := "scriptDecodes", fn := fun _ => fun
  | [d1, d2, d3] => { results := [.lit (.bool true)], args := [d1, d2, d3] }
  | _ => none }
def scriptDecodesRow : OpenClaim := { program := "ytcdmgalhboijcaa", sum := "df61a93fe11e7d612bc9375fb08b2a3630f2617d938373d90aaa27f849f32fc6", func := "cadency/cadencylaw08.ScriptDecodes", spec := "scriptDecodes", unfollowed := true, recurses := true, apart := false }
def ScriptDecodesSaid : Prop := scriptDecodesRow.holds Try.pinned (OpenSpec.ofChange scriptDecodesSpec)

/-- ITS FALSE NEIGHBOUR: 'it returns false'. Refute it at one input. -/
def scriptDecodesWrong : ChangeSpec := { name := "scriptDecodes", fn := fun _ => fun
  | [d1, d2, d3] => { results := [.lit (.bool false)], args := [d1, d2, d3] }
  | _ => none }
def ScriptDecodesWrongFalsely : Prop := scriptDecodesRow.holds Try.pinned (OpenSpec.ofChange scriptDecodesWrong)

/-- 'cadencylaw08.ScriptPrefix': WHATEVER THE INPUT: true; the input reads as it did. -/
def scriptPrefixSpec : ChangeSpec := { name := "scriptPrefix", fn := fun _ => fun
  | [d1, d2, d3] => { results := [.lit (.bool true)], args := [d1, d2, d3] }
  | _ => none }
def scriptPrefixRow : OpenClaim := { program := "ytcdmgalhboijcaa", sum := "df61a93fe11e7d612bc9375fb08b2a3630f2617d938373d90aaa27f849f32fc6", func := "cadency/cadencylaw08.ScriptPrefix", spec := "scriptPrefix", unfollowed := true, recurses := true, apart := false }
def ScriptPrefixSaid : Prop := scriptPrefixRow.holds Try.pinned (OpenSpec.ofChange scriptPrefixSpec)

/-- ITS FALSE NEIGHBOUR: 'it returns false'. Refute it at one input. -/
def scriptPrefixWrong : ChangeSpec := { name := "scriptPrefix", fn := fun _ => fun
  | [d1, d2, d3] => { results := [.lit (.bool false)], args := [d1, d2, d3] }
  | _ => none }
def ScriptPrefixWrongFalsely : Prop := scriptPrefixRow.holds Try.pinned (OpenSpec.ofChange scriptPrefixWrong)

/-- 'cadencylaw08.ScriptShifts': WHATEVER THE INPUT: true; the input reads as it did. -/
def scriptShiftsSpec : ChangeSpec := { name := "scriptShifts", fn := fun _ => fun
  | [d1, d2, d3] => { results := [.lit (.bool true)], args := [d1, d2, d3] }
  | _ => none }
def scriptShiftsRow : OpenClaim := { program := "ytcdmgalhboijcaa", sum := "df61a93fe11e7d612bc9375fb08b2a3630f2617d938373d90aaa27f849f32fc6", func := "cadency/cadencylaw08.ScriptShifts", spec := "scriptShifts", unfollowed := true, recurses := true, apart := false }
def ScriptShiftsSaid : Prop := scriptShiftsRow.holds Try.pinned (OpenSpec.ofChange scriptShiftsSpec)

/-- ITS FALSE NEIGHBOUR: 'it returns false'. Refute it at one input. -/
def scriptShiftsWrong : ChangeSpec := { name := "scriptShifts", fn := fun _ => fun
  | [d1, d2, d3] => { results := [.lit (.bool false)], args := [d1, d2, d3] }
  | _ => none }
def ScriptShiftsWrongFalsely : Prop := scriptShiftsRow.holds Try.pinned (OpenSpec.ofChange scriptShiftsWrong)

/-- 'cadencylaw08.ScriptLegal': WHATEVER THE INPUT: true; the input reads as it did. -/
def scriptLegalSpec : ChangeSpec := { name := "scriptLegal", fn := fun _ => fun
  | [d1, d2, d3] => { results := [.lit (.bool true)], args := [d1, d2, d3] }
  | _ => none }
def scriptLegalRow : OpenClaim := { program := "ytcdmgalhboijcaa", sum := "df61a93fe11e7d612bc9375fb08b2a3630f2617d938373d90aaa27f849f32fc6", func := "cadency/cadencylaw08.ScriptLegal", spec := "scriptLegal", unfollowed := true, recurses := true, apart := false }
def ScriptLegalSaid : Prop := scriptLegalRow.holds Try.pinned (OpenSpec.ofChange scriptLegalSpec)

/-- ITS FALSE NEIGHBOUR: 'it returns false'. Refute it at one input. -/
def scriptLegalWrong : ChangeSpec := { name := "scriptLegal", fn := fun _ => fun
  | [d1, d2, d3] => { results := [.lit (.bool false)], args := [d1, d2, d3] }
  | _ => none }
def ScriptLegalWrongFalsely : Prop := scriptLegalRow.holds Try.pinned (OpenSpec.ofChange scriptLegalWrong)

/-- 'cadencylaw08.ScriptMany': WHATEVER THE INPUT: true; the input reads as it did. -/
def scriptManySpec : ChangeSpec := { name := "scriptMany", fn := fun _ => fun
  | [d1, d2] => { results := [.lit (.bool true)], args := [d1, d2] }
  | _ => none }
def scriptManyRow : OpenClaim := { program := "ytcdmgalhboijcaa", sum := "df61a93fe11e7d612bc9375fb08b2a3630f2617d938373d90aaa27f849f32fc6", func := "cadency/cadencylaw08.ScriptMany", spec := "scriptMany", unfollowed := true, recurses := true, apart := false }
def ScriptManySaid : Prop := scriptManyRow.holds Try.pinned (OpenSpec.ofChange scriptManySpec)

/-- ITS FALSE NEIGHBOUR: 'it returns false'. Refute it at one input. -/
def scriptManyWrong : ChangeSpec := { name := "scriptMany", fn := fun _ => fun
  | [d1, d2] => { results := [.lit (.bool false)], args := [d1, d2] }
  | _ => none }
def ScriptManyWrongFalsely : Prop := scriptManyRow.holds Try.pinned (OpenSpec.ofChange scriptManyWrong)

/-- 'cadencylaw08.ScriptCounts': WHATEVER THE INPUT: true; the input reads as it did. -/
def scriptCountsSpec : ChangeSpec := { name := "scriptCounts", fn := fun _ => fun
  | [d1, d2, d3] => { results := [.lit (.bool true)], args := [d1, d2, d3] }
  | _ => none }
def scriptCountsRow : OpenClaim := { program := "ytcdmgalhboijcaa", sum := "df61a93fe11e7d612bc9375fb08b2a3630f2617d938373d90aaa27f849f32fc6", func := "cadency/cadencylaw08.ScriptCounts", spec := "scriptCounts", unfollowed := true, recurses := true, apart := false }
def ScriptCountsSaid : Prop := scriptCountsRow.holds Try.pinned (OpenSpec.ofChange scriptCountsSpec)

/-- ITS FALSE NEIGHBOUR: 'it returns false'. Refute it at one input. -/
def scriptCountsWrong : ChangeSpec := { name := "scriptCounts", fn := fun _ => fun
  | [d1, d2, d3] => { results := [.lit (.bool false)], args := [d1, d2, d3] }
  | _ => none }
def ScriptCountsWrongFalsely : Prop := scriptCountsRow.holds Try.pinned (OpenSpec.ofChange scriptCountsWrong)

/-- 'cadencylaw08.ScriptBack': WHATEVER THE INPUT: true; the input reads as it did. -/
def scriptBackSpec : ChangeSpec := { name := "scriptBack", fn := fun _ => fun
  | [d1, d2, d3] => { results := [.lit (.bool true)], args := [d1, d2, d3] }
  | _ => none }
def scriptBackRow : OpenClaim := { program := "ytcdmgalhboijcaa", sum := "df61a93fe11e7d612bc9375fb08b2a3630f2617d938373d90aaa27f849f32fc6", func := "cadency/cadencylaw08.ScriptBack", spec := "scriptBack", unfollowed := true, recurses := true, apart := false }
def ScriptBackSaid : Prop := scriptBackRow.holds Try.pinned (OpenSpec.ofChange scriptBackSpec)

/-- ITS FALSE NEIGHBOUR: 'it returns false'. Refute it at one input. -/
def scriptBackWrong : ChangeSpec := { name := "scriptBack", fn := fun _ => fun
  | [d1, d2, d3] => { results := [.lit (.bool false)], args := [d1, d2, d3] }
  | _ => none }
def ScriptBackWrongFalsely : Prop := scriptBackRow.holds Try.pinned (OpenSpec.ofChange scriptBackWrong)

/- THE SECOND FORM. 'bulk': how many values and letters a reading holds, each counted each time it is reached (what is shared counts as often as it is met; a slice's spare places count too). A statement '..UptoSaid' is the law's where the arguments, and the package variables that the reading takes, are together of bulk at most 1048576: NARROWER than '..Said'. Prove '..Said' where nothing that the law and all that it calls make is longer than what came in: it says more and counts as full. Else prove '..UptoSaid'. A law counts once. -/
mutual
def uptoBulk {H : Type} : DataW H → Nat
  | .lit (.string bytes) => bytes.length + 1
  | .lit _ => 1
  | .nil => 1
  | .ptr d => uptoBulk d + 1
  | .slice elems spare => uptoBulkAll elems + uptoBulkAll spare + 1
  | .agg parts => uptoBulkAll parts + 1
  | .iface _ d => uptoBulk d + 1
  | .map entries => uptoBulkEntries entries + 1
  | .held _ => 1
def uptoBulkAll {H : Type} : List (DataW H) → Nat
  | [] => 0
  | d :: r => uptoBulk d + uptoBulkAll r
def uptoBulkEntries {H : Type} : List (Lit × DataW H) → Nat
  | [] => 0
  | x :: r => uptoBulkEntry x + uptoBulkEntries r
def uptoBulkEntry {H : Type} : Lit × DataW H → Nat
  | (.string bytes, d) => bytes.length + uptoBulk d + 1
  | (_, d) => uptoBulk d + 1
 end
def uptoSmall : (H : Type) → List (DataW H) → Bool := fun _ ds => decide (uptoBulkAll ds ≤ 1048576)
def OpenSpec.upto (s : _root_.Go.ChangeSpec) : _root_.Go.OpenSpec := { _root_.Go.OpenSpec.ofChange s with cond := some uptoSmall }

/-- 'cadencylaw08.ScriptDecodes', WHERE WHAT IT READS IS OF BULK AT MOST 1048576: true; the input reads as it did. -/
def scriptDecodesUptoRow : OpenClaim := { program := "ytcdmgalhboijcaa", sum := "df61a93fe11e7d612bc9375fb08b2a3630f2617d938373d90aaa27f849f32fc6", func := "cadency/cadencylaw08.ScriptDecodes", spec := "scriptDecodes", unfollowed := true, recurses := true, apart := false, narrowed := true }
def ScriptDecodesUptoSaid : Prop := scriptDecodesUptoRow.holds Try.pinned (OpenSpec.upto scriptDecodesSpec)

/-- 'cadencylaw08.ScriptPrefix', WHERE WHAT IT READS IS OF BULK AT MOST 1048576: true; the input reads as it did. -/
def scriptPrefixUptoRow : OpenClaim := { program := "ytcdmgalhboijcaa", sum := "df61a93fe11e7d612bc9375fb08b2a3630f2617d938373d90aaa27f849f32fc6", func := "cadency/cadencylaw08.ScriptPrefix", spec := "scriptPrefix", unfollowed := true, recurses := true, apart := false, narrowed := true }
def ScriptPrefixUptoSaid : Prop := scriptPrefixUptoRow.holds Try.pinned (OpenSpec.upto scriptPrefixSpec)

/-- 'cadencylaw08.ScriptShifts', WHERE WHAT IT READS IS OF BULK AT MOST 1048576: true; the input reads as it did. -/
def scriptShiftsUptoRow : OpenClaim := { program := "ytcdmgalhboijcaa", sum := "df61a93fe11e7d612bc9375fb08b2a3630f2617d938373d90aaa27f849f32fc6", func := "cadency/cadencylaw08.ScriptShifts", spec := "scriptShifts", unfollowed := true, recurses := true, apart := false, narrowed := true }
def ScriptShiftsUptoSaid : Prop := scriptShiftsUptoRow.holds Try.pinned (OpenSpec.upto scriptShiftsSpec)

/-- 'cadencylaw08.ScriptLegal', WHERE WHAT IT READS IS OF BULK AT MOST 1048576: true; the input reads as it did. -/
def scriptLegalUptoRow : OpenClaim := { program := "ytcdmgalhboijcaa", sum := "df61a93fe11e7d612bc9375fb08b2a3630f2617d938373d90aaa27f849f32fc6", func := "cadency/cadencylaw08.ScriptLegal", spec := "scriptLegal", unfollowed := true, recurses := true, apart := false, narrowed := true }
def ScriptLegalUptoSaid : Prop := scriptLegalUptoRow.holds Try.pinned (OpenSpec.upto scriptLegalSpec)

/-- 'cadencylaw08.ScriptMany', WHERE WHAT IT READS IS OF BULK AT MOST 1048576: true; the input reads as it did. -/
def scriptManyUptoRow : OpenClaim := { program := "ytcdmgalhboijcaa", sum := "df61a93fe11e7d612bc9375fb08b2a3630f2617d938373d90aaa27f849f32fc6", func := "cadency/cadencylaw08.ScriptMany", spec := "scriptMany", unfollowed := true, recurses := true, apart := false, narrowed := true }
def ScriptManyUptoSaid : Prop := scriptManyUptoRow.holds Try.pinned (OpenSpec.upto scriptManySpec)

/-- 'cadencylaw08.ScriptCounts', WHERE WHAT IT READS IS OF BULK AT MOST 1048576: true; the input reads as it did. -/
def scriptCountsUptoRow : OpenClaim := { program := "ytcdmgalhboijcaa", sum := "df61a93fe11e7d612bc9375fb08b2a3630f2617d938373d90aaa27f849f32fc6", func := "cadency/cadencylaw08.ScriptCounts", spec := "scriptCounts", unfollowed := true, recurses := true, apart := false, narrowed := true }
def ScriptCountsUptoSaid : Prop := scriptCountsUptoRow.holds Try.pinned (OpenSpec.upto scriptCountsSpec)

/-- 'cadencylaw08.ScriptBack', WHERE WHAT IT READS IS OF BULK AT MOST 1048576: true; the input reads as it did. -/
def scriptBackUptoRow : OpenClaim := { program := "ytcdmgalhboijcaa", sum := "df61a93fe11e7d612bc9375fb08b2a3630f2617d938373d90aaa27f849f32fc6", func := "cadency/cadencylaw08.ScriptBack", spec := "scriptBack", unfollowed := true, recurses := true, apart := false, narrowed := true }
def ScriptBackUptoSaid : Prop := scriptBackUptoRow.holds Try.pinned (OpenSpec.upto scriptBackSpec)

end Rows
end Go.Proofs.Ytcdmgalhboijcaa
