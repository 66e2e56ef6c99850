/-
  DERIVED. GIVEN WITH THE SEED: THE CARDS: each row of YtdclpabfnfmikaaDoorRows.lean that lists a variable, with what it lists TIED to the program's text (the seventh form; the later family's looks); each row that meets fmt, with fmt's text TOLD by the authors' own Lean function (tested against real Go, not proved from fmt's source: count such statements apart). THE CARD IS WHAT COUNTS. Prove the row's statement (the work); the ties are given (YtdclpabfnfmikaaDoorTie.lean); close each card by the builder's one call (the guide's Derived/Test/ToyasCard.lean, 'card_holds'). Laid BY PROGRAM, IN A SANDBOX (cutbox-door.mjs). By AI agents, Wed Nov 11 2026. No macro, syntax, notation, axiom, sorry.
-/
import Derived.Test.YtdclpabfnfmikaaDoorRows
import GoSem.ClaimSeven
namespace Go.Proofs.YtdclpabfnfmikaaDoor
namespace Rows

/-- THE TIED CARD OF 'ordinallaw09.ChecksumSums'. -/
def checksumSumsCard : Claim7 := { stood := { row := checksumSumsRow, standIns := [], harness := (true, "0fd8fed381cd35f268507335640df3e20a9df6d556b7ff64c1d86a3cce2a18ec"), looks := false }, kinds := [], alts := [], laidByText := true, laidKinds := [.data], laidTests := true, laidLooks := .later }
def ChecksumSumsCardSaid : Prop := Claim7.holds Tryd.pinned (.plain (OpenSpec.ofChange checksumSumsSpec)) checksumSumsCard

/-- THE TIED CARD OF 'ordinallaw09.ChecksumMixes'. -/
def checksumMixesCard : Claim7 := { stood := { row := checksumMixesRow, standIns := [], harness := (true, "0fd8fed381cd35f268507335640df3e20a9df6d556b7ff64c1d86a3cce2a18ec"), looks := false }, kinds := [], alts := [], laidByText := true, laidKinds := [.data], laidTests := true, laidLooks := .later }
def ChecksumMixesCardSaid : Prop := Claim7.holds Tryd.pinned (.plain (OpenSpec.ofChange checksumMixesSpec)) checksumMixesCard

/-- THE TIED CARD OF 'ordinallaw09.ChecksumJoins'. -/
def checksumJoinsCard : Claim7 := { stood := { row := checksumJoinsRow, standIns := [], harness := (true, "0fd8fed381cd35f268507335640df3e20a9df6d556b7ff64c1d86a3cce2a18ec"), looks := false }, kinds := [], alts := [], laidByText := true, laidKinds := [.data], laidTests := true, laidLooks := .later }
def ChecksumJoinsCardSaid : Prop := Claim7.holds Tryd.pinned (.plain (OpenSpec.ofChange checksumJoinsSpec)) checksumJoinsCard

/-- THE TIED CARD OF 'ordinallaw09.ChecksumAffine'. -/
def checksumAffineCard : Claim7 := { stood := { row := checksumAffineRow, standIns := [], harness := (true, "0fd8fed381cd35f268507335640df3e20a9df6d556b7ff64c1d86a3cce2a18ec"), looks := false }, kinds := [], alts := [], laidByText := true, laidKinds := [.data], laidTests := true, laidLooks := .later }
def ChecksumAffineCardSaid : Prop := Claim7.holds Tryd.pinned (.plain (OpenSpec.ofChange checksumAffineSpec)) checksumAffineCard

/-- THE TIED CARD OF 'ordinallaw09.ChecksumSplits'. -/
def checksumSplitsCard : Claim7 := { stood := { row := checksumSplitsRow, standIns := [], harness := (true, "0fd8fed381cd35f268507335640df3e20a9df6d556b7ff64c1d86a3cce2a18ec"), looks := false }, kinds := [], alts := [], laidByText := true, laidKinds := [.data], laidTests := true, laidLooks := .later }
def ChecksumSplitsCardSaid : Prop := Claim7.holds Tryd.pinned (.plain (OpenSpec.ofChange checksumSplitsSpec)) checksumSplitsCard

/-- THE TIED CARD OF 'ordinallaw09.ChecksumBursts'. -/
def checksumBurstsCard : Claim7 := { stood := { row := checksumBurstsRow, standIns := [], harness := (true, "0fd8fed381cd35f268507335640df3e20a9df6d556b7ff64c1d86a3cce2a18ec"), looks := false }, kinds := [], alts := [], laidByText := true, laidKinds := [.data], laidTests := true, laidLooks := .later }
def ChecksumBurstsCardSaid : Prop := Claim7.holds Tryd.pinned (.plain (OpenSpec.ofChange checksumBurstsSpec)) checksumBurstsCard

/-- THE SECOND FORM's CARD OF 'ordinallaw09.ChecksumSums'. -/
def checksumSumsUptoCard : Claim7 := { stood := { row := checksumSumsUptoRow, standIns := [], harness := (true, "0fd8fed381cd35f268507335640df3e20a9df6d556b7ff64c1d86a3cce2a18ec"), looks := false }, kinds := [], alts := [], laidByText := true, laidKinds := [.data], laidTests := true, laidLooks := .later }
def ChecksumSumsUptoCardSaid : Prop := Claim7.holds Tryd.pinned (.plain (OpenSpec.upto checksumSumsSpec)) checksumSumsUptoCard

/-- THE SECOND FORM's CARD OF 'ordinallaw09.ChecksumMixes'. -/
def checksumMixesUptoCard : Claim7 := { stood := { row := checksumMixesUptoRow, standIns := [], harness := (true, "0fd8fed381cd35f268507335640df3e20a9df6d556b7ff64c1d86a3cce2a18ec"), looks := false }, kinds := [], alts := [], laidByText := true, laidKinds := [.data], laidTests := true, laidLooks := .later }
def ChecksumMixesUptoCardSaid : Prop := Claim7.holds Tryd.pinned (.plain (OpenSpec.upto checksumMixesSpec)) checksumMixesUptoCard

/-- THE SECOND FORM's CARD OF 'ordinallaw09.ChecksumJoins'. -/
def checksumJoinsUptoCard : Claim7 := { stood := { row := checksumJoinsUptoRow, standIns := [], harness := (true, "0fd8fed381cd35f268507335640df3e20a9df6d556b7ff64c1d86a3cce2a18ec"), looks := false }, kinds := [], alts := [], laidByText := true, laidKinds := [.data], laidTests := true, laidLooks := .later }
def ChecksumJoinsUptoCardSaid : Prop := Claim7.holds Tryd.pinned (.plain (OpenSpec.upto checksumJoinsSpec)) checksumJoinsUptoCard

/-- THE SECOND FORM's CARD OF 'ordinallaw09.ChecksumAffine'. -/
def checksumAffineUptoCard : Claim7 := { stood := { row := checksumAffineUptoRow, standIns := [], harness := (true, "0fd8fed381cd35f268507335640df3e20a9df6d556b7ff64c1d86a3cce2a18ec"), looks := false }, kinds := [], alts := [], laidByText := true, laidKinds := [.data], laidTests := true, laidLooks := .later }
def ChecksumAffineUptoCardSaid : Prop := Claim7.holds Tryd.pinned (.plain (OpenSpec.upto checksumAffineSpec)) checksumAffineUptoCard

/-- THE SECOND FORM's CARD OF 'ordinallaw09.ChecksumSplits'. -/
def checksumSplitsUptoCard : Claim7 := { stood := { row := checksumSplitsUptoRow, standIns := [], harness := (true, "0fd8fed381cd35f268507335640df3e20a9df6d556b7ff64c1d86a3cce2a18ec"), looks := false }, kinds := [], alts := [], laidByText := true, laidKinds := [.data], laidTests := true, laidLooks := .later }
def ChecksumSplitsUptoCardSaid : Prop := Claim7.holds Tryd.pinned (.plain (OpenSpec.upto checksumSplitsSpec)) checksumSplitsUptoCard

/-- THE SECOND FORM's CARD OF 'ordinallaw09.ChecksumBursts'. -/
def checksumBurstsUptoCard : Claim7 := { stood := { row := checksumBurstsUptoRow, standIns := [], harness := (true, "0fd8fed381cd35f268507335640df3e20a9df6d556b7ff64c1d86a3cce2a18ec"), looks := false }, kinds := [], alts := [], laidByText := true, laidKinds := [.data], laidTests := true, laidLooks := .later }
def ChecksumBurstsUptoCardSaid : Prop := Claim7.holds Tryd.pinned (.plain (OpenSpec.upto checksumBurstsSpec)) checksumBurstsUptoCard
end Rows
end Go.Proofs.YtdclpabfnfmikaaDoor
