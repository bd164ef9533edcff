/-
  DERIVED. GIVEN WITH THE SEED: THE CARDS: each row of YtefdcjmfbjlinaaDoorRows.lean that lists a variable, with what it lists TIED to the program's text (the seventh form; the later family's looks); each row that meets fmt, with fmt's text TOLD by the authors' own Lean function (tested against real Go, not proved from fmt's source: count such statements apart). THE CARD IS WHAT COUNTS. Prove the row's statement (the work); the ties are given (YtefdcjmfbjlinaaDoorTie.lean); close each card by the builder's one call (the guide's Derived/Test/ToyasCard.lean, 'card_holds'). Laid BY PROGRAM, IN A SANDBOX (cutbox-door.mjs). By AI agents, Wed Nov 11 2026. No macro, syntax, notation, axiom, sorry.
-/
import Derived.Test.YtefdcjmfbjlinaaDoorRows
import GoSem.ClaimSeven
namespace Go.Proofs.YtefdcjmfbjlinaaDoor
namespace Rows

/-- THE TIED CARD OF 'cadencylaw05.TextPrints'. -/
def textPrintsCard : Claim7 := { stood := { row := textPrintsRow, standIns := [], harness := (true, "1f17fe444f478f83aae6a23fdae8732e414bef064bf9b30aadaf4301855f37b8"), looks := false }, kinds := [], alts := [], laidByText := true, laidKinds := [.data, .data, .data], laidTests := true, laidLooks := .later }
def TextPrintsCardSaid : Prop := Claim7.holds Tryd.pinned (.plain (OpenSpec.ofChange textPrintsSpec)) textPrintsCard

/-- THE TIED CARD OF 'cadencylaw05.TextBack'. -/
def textBackCard : Claim7 := { stood := { row := textBackRow, standIns := [], harness := (true, "1f17fe444f478f83aae6a23fdae8732e414bef064bf9b30aadaf4301855f37b8"), looks := false }, kinds := [], alts := [], laidByText := true, laidKinds := [.data, .data, .data], laidTests := true, laidLooks := .later }
def TextBackCardSaid : Prop := Claim7.holds Tryd.pinned (.plain (OpenSpec.ofChange textBackSpec)) textBackCard

/-- THE TIED CARD OF 'cadencylaw05.TextAgain'. -/
def textAgainCard : Claim7 := { stood := { row := textAgainRow, standIns := [], harness := (true, "1f17fe444f478f83aae6a23fdae8732e414bef064bf9b30aadaf4301855f37b8"), looks := false }, kinds := [], alts := [], laidByText := true, laidKinds := [.data, .data, .data], laidTests := true, laidLooks := .later }
def TextAgainCardSaid : Prop := Claim7.holds Tryd.pinned (.plain (OpenSpec.ofChange textAgainSpec)) textAgainCard

/-- THE TIED CARD OF 'cadencylaw05.TextJoins'. -/
def textJoinsCard : Claim7 := { stood := { row := textJoinsRow, standIns := [], harness := (true, "1f17fe444f478f83aae6a23fdae8732e414bef064bf9b30aadaf4301855f37b8"), looks := false }, kinds := [], alts := [], laidByText := true, laidKinds := [.data, .data, .data], laidTests := true, laidLooks := .later }
def TextJoinsCardSaid : Prop := Claim7.holds Tryd.pinned (.plain (OpenSpec.ofChange textJoinsSpec)) textJoinsCard

/-- THE SECOND FORM's CARD OF 'cadencylaw05.TextPrints'. -/
def textPrintsUptoCard : Claim7 := { stood := { row := textPrintsUptoRow, standIns := [], harness := (true, "1f17fe444f478f83aae6a23fdae8732e414bef064bf9b30aadaf4301855f37b8"), looks := false }, kinds := [], alts := [], laidByText := true, laidKinds := [.data, .data, .data], laidTests := true, laidLooks := .later }
def TextPrintsUptoCardSaid : Prop := Claim7.holds Tryd.pinned (.plain (OpenSpec.upto textPrintsSpec)) textPrintsUptoCard

/-- THE SECOND FORM's CARD OF 'cadencylaw05.TextBack'. -/
def textBackUptoCard : Claim7 := { stood := { row := textBackUptoRow, standIns := [], harness := (true, "1f17fe444f478f83aae6a23fdae8732e414bef064bf9b30aadaf4301855f37b8"), looks := false }, kinds := [], alts := [], laidByText := true, laidKinds := [.data, .data, .data], laidTests := true, laidLooks := .later }
def TextBackUptoCardSaid : Prop := Claim7.holds Tryd.pinned (.plain (OpenSpec.upto textBackSpec)) textBackUptoCard

/-- THE SECOND FORM's CARD OF 'cadencylaw05.TextAgain'. -/
def textAgainUptoCard : Claim7 := { stood := { row := textAgainUptoRow, standIns := [], harness := (true, "1f17fe444f478f83aae6a23fdae8732e414bef064bf9b30aadaf4301855f37b8"), looks := false }, kinds := [], alts := [], laidByText := true, laidKinds := [.data, .data, .data], laidTests := true, laidLooks := .later }
def TextAgainUptoCardSaid : Prop := Claim7.holds Tryd.pinned (.plain (OpenSpec.upto textAgainSpec)) textAgainUptoCard

/-- THE SECOND FORM's CARD OF 'cadencylaw05.TextJoins'. -/
def textJoinsUptoCard : Claim7 := { stood := { row := textJoinsUptoRow, standIns := [], harness := (true, "1f17fe444f478f83aae6a23fdae8732e414bef064bf9b30aadaf4301855f37b8"), looks := false }, kinds := [], alts := [], laidByText := true, laidKinds := [.data, .data, .data], laidTests := true, laidLooks := .later }
def TextJoinsUptoCardSaid : Prop := Claim7.holds Tryd.pinned (.plain (OpenSpec.upto textJoinsSpec)) textJoinsUptoCard
end Rows
end Go.Proofs.YtefdcjmfbjlinaaDoor
