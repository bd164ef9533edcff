/-
  No cell of these rows narrows 'for every input' (looked for: loops, veiled, ifaces, maps, wideKeys, modest, calm, conditions, laid).
  DERIVED. THE GIVEN ROWS OF THIS SEAT. 5 by the template 'for every input the law returns true; each argument reads behind the call as it read before'; 0 by the template 'total and deterministic' (their statements: YtoecfimmgiajpaaTotals.lean).
  GIVEN WITH THE SEED: the statements are not yours to turn. If you find one false, say at which input.
  Laid BY PROGRAM, IN A SANDBOX (cutbox-rows.mjs): the forced cells as the released guide's own fill.sh prints them over the translation c75a06b673dde338… (all of the seat's roots in one cut). By AI agents, Wed Nov 11 2026. No macro, syntax, notation, axiom, sorry.
-/
import Derived.Test.YtoecfimmgiajpaaChecked
import GoSem.Claim
import GoSem.ClaimJoined
import GoSem.ClaimMapViews
import Derived.JoinedTies
import Derived.KernelRfl
namespace Go.Proofs.Ytoecfimmgiajpaa
/- THE CELL 'sum', in the pinned program and in every row, IS THE sha256 OF THE DUMP (.gsa) THAT YtoecfimmgiajpaaProg.lean LOADS. Nothing in Lean hashes anything: it is a label: what it is worth is what the hold of that sum in a sandbox is worth. -/
noncomputable def Try.pinned : Pinned := { name := "ytoecfimmgiajpaa", sum := "c75a06b673dde338157114099adfde6afab2d1c0982b156ea8c846f87bd856b7", checked := Try.checked }
namespace Rows
def none {H : Type} : Left H := { results := [], args := [] }

/-- 'cadencylaw07.FifoOrder': WHATEVER THE INPUT: true; the input reads as it did. -/
def fifoOrderSpec : ChangeSpec := { name := "fifoOrder", fn := fun _ => fun
  | [d1, d2] => { results := [.lit (.bool true)], args := [d1, d2] }
  | _ => none }
def fifoOrderRow : OpenClaim := { program := "ytoecfimmgiajpaa", sum := "c75a06b673dde338157114099adfde6afab2d1c0982b156ea8c846f87bd856b7", func := "cadency/cadencylaw07.FifoOrder", spec := "fifoOrder", apart := false }
def FifoOrderSaid : Prop := fifoOrderRow.holds Try.pinned (OpenSpec.ofChange fifoOrderSpec)

/-- ITS FALSE NEIGHBOUR: 'it returns false'. Refute it at one input. -/
def fifoOrderWrong : ChangeSpec := { name := "fifoOrder", fn := fun _ => fun
  | [d1, d2] => { results := [.lit (.bool false)], args := [d1, d2] }
  | _ => none }
def FifoOrderWrongFalsely : Prop := fifoOrderRow.holds Try.pinned (OpenSpec.ofChange fifoOrderWrong)

/-- 'cadencylaw07.FifoRoom': WHATEVER THE INPUT: true; the input reads as it did. -/
def fifoRoomSpec : ChangeSpec := { name := "fifoRoom", fn := fun _ => fun
  | [d1, d2] => { results := [.lit (.bool true)], args := [d1, d2] }
  | _ => none }
def fifoRoomRow : OpenClaim := { program := "ytoecfimmgiajpaa", sum := "c75a06b673dde338157114099adfde6afab2d1c0982b156ea8c846f87bd856b7", func := "cadency/cadencylaw07.FifoRoom", spec := "fifoRoom", apart := false }
def FifoRoomSaid : Prop := fifoRoomRow.holds Try.pinned (OpenSpec.ofChange fifoRoomSpec)

/-- ITS FALSE NEIGHBOUR: 'it returns false'. Refute it at one input. -/
def fifoRoomWrong : ChangeSpec := { name := "fifoRoom", fn := fun _ => fun
  | [d1, d2] => { results := [.lit (.bool false)], args := [d1, d2] }
  | _ => none }
def FifoRoomWrongFalsely : Prop := fifoRoomRow.holds Try.pinned (OpenSpec.ofChange fifoRoomWrong)

/-- 'cadencylaw07.FifoStops': WHATEVER THE INPUT: true; the input reads as it did. -/
def fifoStopsSpec : ChangeSpec := { name := "fifoStops", fn := fun _ => fun
  | [d1, d2, d3] => { results := [.lit (.bool true)], args := [d1, d2, d3] }
  | _ => none }
def fifoStopsRow : OpenClaim := { program := "ytoecfimmgiajpaa", sum := "c75a06b673dde338157114099adfde6afab2d1c0982b156ea8c846f87bd856b7", func := "cadency/cadencylaw07.FifoStops", spec := "fifoStops", unfollowed := true, recurses := true, apart := false }
def FifoStopsSaid : Prop := fifoStopsRow.holds Try.pinned (OpenSpec.ofChange fifoStopsSpec)

/-- ITS FALSE NEIGHBOUR: 'it returns false'. Refute it at one input. -/
def fifoStopsWrong : ChangeSpec := { name := "fifoStops", fn := fun _ => fun
  | [d1, d2, d3] => { results := [.lit (.bool false)], args := [d1, d2, d3] }
  | _ => none }
def FifoStopsWrongFalsely : Prop := fifoStopsRow.holds Try.pinned (OpenSpec.ofChange fifoStopsWrong)

/-- 'cadencylaw07.FifoNil': WHATEVER THE INPUT: true; the input reads as it did. -/
def fifoNilSpec : ChangeSpec := { name := "fifoNil", fn := fun _ => fun
  | [d] => { results := [.lit (.bool true)], args := [d] }
  | _ => none }
def fifoNilRow : OpenClaim := { program := "ytoecfimmgiajpaa", sum := "c75a06b673dde338157114099adfde6afab2d1c0982b156ea8c846f87bd856b7", func := "cadency/cadencylaw07.FifoNil", spec := "fifoNil", unfollowed := true, recurses := true, apart := false }
def FifoNilSaid : Prop := fifoNilRow.holds Try.pinned (OpenSpec.ofChange fifoNilSpec)

/-- ITS FALSE NEIGHBOUR: 'it returns false'. Refute it at one input. -/
def fifoNilWrong : ChangeSpec := { name := "fifoNil", fn := fun _ => fun
  | [d] => { results := [.lit (.bool false)], args := [d] }
  | _ => none }
def FifoNilWrongFalsely : Prop := fifoNilRow.holds Try.pinned (OpenSpec.ofChange fifoNilWrong)

/-- 'cadencylaw07.FifoPlays': WHATEVER THE INPUT: true; the input reads as it did. -/
def fifoPlaysSpec : ChangeSpec := { name := "fifoPlays", fn := fun _ => fun
  | [d1, d2] => { results := [.lit (.bool true)], args := [d1, d2] }
  | _ => none }
def fifoPlaysRow : OpenClaim := { program := "ytoecfimmgiajpaa", sum := "c75a06b673dde338157114099adfde6afab2d1c0982b156ea8c846f87bd856b7", func := "cadency/cadencylaw07.FifoPlays", spec := "fifoPlays", unfollowed := true, recurses := true, apart := false }
def FifoPlaysSaid : Prop := fifoPlaysRow.holds Try.pinned (OpenSpec.ofChange fifoPlaysSpec)

/-- ITS FALSE NEIGHBOUR: 'it returns false'. Refute it at one input. -/
def fifoPlaysWrong : ChangeSpec := { name := "fifoPlays", fn := fun _ => fun
  | [d1, d2] => { results := [.lit (.bool false)], args := [d1, d2] }
  | _ => none }
def FifoPlaysWrongFalsely : Prop := fifoPlaysRow.holds Try.pinned (OpenSpec.ofChange fifoPlaysWrong)

/- THE SECOND FORM. 'bulk': how many values and letters a reading holds, each counted each time it is reached (what is shared counts as often as it is met; a slice's spare places count too). A statement '..UptoSaid' is the law's where the arguments, and the package variables that the reading takes, are together of bulk at most 1048576: NARROWER than '..Said'. Prove '..Said' where nothing that the law and all that it calls make is longer than what came in: it says more and counts as full. Else prove '..UptoSaid'. A law counts once. -/
mutual
def uptoBulk {H : Type} : DataW H → Nat
  | .lit (.string bytes) => bytes.length + 1
  | .lit _ => 1
  | .nil => 1
  | .ptr d => uptoBulk d + 1
  | .slice elems spare => uptoBulkAll elems + uptoBulkAll spare + 1
  | .agg parts => uptoBulkAll parts + 1
  | .iface _ d => uptoBulk d + 1
  | .map entries => uptoBulkEntries entries + 1
  | .held _ => 1
def uptoBulkAll {H : Type} : List (DataW H) → Nat
  | [] => 0
  | d :: r => uptoBulk d + uptoBulkAll r
def uptoBulkEntries {H : Type} : List (Lit × DataW H) → Nat
  | [] => 0
  | x :: r => uptoBulkEntry x + uptoBulkEntries r
def uptoBulkEntry {H : Type} : Lit × DataW H → Nat
  | (.string bytes, d) => bytes.length + uptoBulk d + 1
  | (_, d) => uptoBulk d + 1
 end
def uptoSmall : (H : Type) → List (DataW H) → Bool := fun _ ds => decide (uptoBulkAll ds ≤ 1048576)
def OpenSpec.upto (s : _root_.Go.ChangeSpec) : _root_.Go.OpenSpec := { _root_.Go.OpenSpec.ofChange s with cond := some uptoSmall }

/-- 'cadencylaw07.FifoOrder', WHERE WHAT IT READS IS OF BULK AT MOST 1048576: true; the input reads as it did. -/
def fifoOrderUptoRow : OpenClaim := { program := "ytoecfimmgiajpaa", sum := "c75a06b673dde338157114099adfde6afab2d1c0982b156ea8c846f87bd856b7", func := "cadency/cadencylaw07.FifoOrder", spec := "fifoOrder", apart := false, narrowed := true }
def FifoOrderUptoSaid : Prop := fifoOrderUptoRow.holds Try.pinned (OpenSpec.upto fifoOrderSpec)

/-- 'cadencylaw07.FifoRoom', WHERE WHAT IT READS IS OF BULK AT MOST 1048576: true; the input reads as it did. -/
def fifoRoomUptoRow : OpenClaim := { program := "ytoecfimmgiajpaa", sum := "c75a06b673dde338157114099adfde6afab2d1c0982b156ea8c846f87bd856b7", func := "cadency/cadencylaw07.FifoRoom", spec := "fifoRoom", apart := false, narrowed := true }
def FifoRoomUptoSaid : Prop := fifoRoomUptoRow.holds Try.pinned (OpenSpec.upto fifoRoomSpec)

/-- 'cadencylaw07.FifoStops', WHERE WHAT IT READS IS OF BULK AT MOST 1048576: true; the input reads as it did. -/
def fifoStopsUptoRow : OpenClaim := { program := "ytoecfimmgiajpaa", sum := "c75a06b673dde338157114099adfde6afab2d1c0982b156ea8c846f87bd856b7", func := "cadency/cadencylaw07.FifoStops", spec := "fifoStops", unfollowed := true, recurses := true, apart := false, narrowed := true }
def FifoStopsUptoSaid : Prop := fifoStopsUptoRow.holds Try.pinned (OpenSpec.upto fifoStopsSpec)

/-- 'cadencylaw07.FifoNil', WHERE WHAT IT READS IS OF BULK AT MOST 1048576: true; the input reads as it did. -/
def fifoNilUptoRow : OpenClaim := { program := "ytoecfimmgiajpaa", sum := "c75a06b673dde338157114099adfde6afab2d1c0982b156ea8c846f87bd856b7", func := "cadency/cadencylaw07.FifoNil", spec := "fifoNil", unfollowed := true, recurses := true, apart := false, narrowed := true }
def FifoNilUptoSaid : Prop := fifoNilUptoRow.holds Try.pinned (OpenSpec.upto fifoNilSpec)

/-- 'cadencylaw07.FifoPlays', WHERE WHAT IT READS IS OF BULK AT MOST 1048576: true; the input reads as it did. -/
def fifoPlaysUptoRow : OpenClaim := { program := "ytoecfimmgiajpaa", sum := "c75a06b673dde338157114099adfde6afab2d1c0982b156ea8c846f87bd856b7", func := "cadency/cadencylaw07.FifoPlays", spec := "fifoPlays", unfollowed := true, recurses := true, apart := false, narrowed := true }
def FifoPlaysUptoSaid : Prop := fifoPlaysUptoRow.holds Try.pinned (OpenSpec.upto fifoPlaysSpec)

end Rows
end Go.Proofs.Ytoecfimmgiajpaa
