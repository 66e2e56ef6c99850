/-
  DERIVED. GIVEN WITH THE SEED: THE CARDS: each row of YtlokfndonjldpaaDoorRows.lean that lists a variable, with what it lists TIED to the program's text (the seventh form; the later family's looks); each row that meets fmt, with fmt's text TOLD by the authors' own Lean function (tested against real Go, not proved from fmt's source: count such statements apart). THE CARD IS WHAT COUNTS. Prove the row's statement (the work); the ties are given (YtlokfndonjldpaaDoorTie.lean); close each card by the builder's one call (the guide's Derived/Test/ToyasCard.lean, 'card_holds'). Laid BY PROGRAM, IN A SANDBOX (cutbox-door.mjs). By AI agents, Wed Nov 11 2026. No macro, syntax, notation, axiom, sorry.
-/
import Derived.Test.YtlokfndonjldpaaDoorRows
import GoSem.ClaimSeven
namespace Go.Proofs.YtlokfndonjldpaaDoor
namespace Rows

/-- THE TIED CARD OF 'ordinallaw12.WalOpens'. -/
def walOpensCard : Claim7 := { stood := { row := walOpensRow, standIns := [], harness := (true, "00e9f3c87c3bd3596d1bc7a228884a09049ce0e1be5e841b29f33b40fe21d956"), looks := false }, kinds := [], alts := [], laidByText := true, laidKinds := [.data], laidTests := true, laidLooks := .later }
def WalOpensCardSaid : Prop := Claim7.holds Tryd.pinned (.plain (OpenSpec.ofChange walOpensSpec)) walOpensCard

/-- THE TIED CARD OF 'ordinallaw12.WalBranches'. -/
def walBranchesCard : Claim7 := { stood := { row := walBranchesRow, standIns := [], harness := (true, "00e9f3c87c3bd3596d1bc7a228884a09049ce0e1be5e841b29f33b40fe21d956"), looks := false }, kinds := [], alts := [], laidByText := true, laidKinds := [.data], laidTests := true, laidLooks := .later }
def WalBranchesCardSaid : Prop := Claim7.holds Tryd.pinned (.plain (OpenSpec.ofChange walBranchesSpec)) walBranchesCard

/-- THE TIED CARD OF 'ordinallaw12.WalRefuses'. -/
def walRefusesCard : Claim7 := { stood := { row := walRefusesRow, standIns := [], harness := (true, "00e9f3c87c3bd3596d1bc7a228884a09049ce0e1be5e841b29f33b40fe21d956"), looks := false }, kinds := [], alts := [], laidByText := true, laidKinds := [.data], laidTests := true, laidLooks := .later }
def WalRefusesCardSaid : Prop := Claim7.holds Tryd.pinned (.plain (OpenSpec.ofChange walRefusesSpec)) walRefusesCard

/-- THE TIED CARD OF 'ordinallaw12.WalTorn'. -/
def walTornCard : Claim7 := { stood := { row := walTornRow, standIns := [], harness := (true, "00e9f3c87c3bd3596d1bc7a228884a09049ce0e1be5e841b29f33b40fe21d956"), looks := false }, kinds := [], alts := [], laidByText := true, laidKinds := [.data], laidTests := true, laidLooks := .later }
def WalTornCardSaid : Prop := Claim7.holds Tryd.pinned (.plain (OpenSpec.ofChange walTornSpec)) walTornCard

/-- THE TIED CARD OF 'ordinallaw12.WalSurvives'. -/
def walSurvivesCard : Claim7 := { stood := { row := walSurvivesRow, standIns := [], harness := (true, "00e9f3c87c3bd3596d1bc7a228884a09049ce0e1be5e841b29f33b40fe21d956"), looks := false }, kinds := [], alts := [], laidByText := true, laidKinds := [.data], laidTests := true, laidLooks := .later }
def WalSurvivesCardSaid : Prop := Claim7.holds Tryd.pinned (.plain (OpenSpec.ofChange walSurvivesSpec)) walSurvivesCard

/-- THE TIED CARD OF 'ordinallaw12.WalPlays'. -/
def walPlaysCard : Claim7 := { stood := { row := walPlaysRow, standIns := [], harness := (true, "00e9f3c87c3bd3596d1bc7a228884a09049ce0e1be5e841b29f33b40fe21d956"), looks := false }, kinds := [], alts := [], laidByText := true, laidKinds := [.data], laidTests := true, laidLooks := .later }
def WalPlaysCardSaid : Prop := Claim7.holds Tryd.pinned (.plain (OpenSpec.ofChange walPlaysSpec)) walPlaysCard

/-- THE SECOND FORM's CARD OF 'ordinallaw12.WalOpens'. -/
def walOpensUptoCard : Claim7 := { stood := { row := walOpensUptoRow, standIns := [], harness := (true, "00e9f3c87c3bd3596d1bc7a228884a09049ce0e1be5e841b29f33b40fe21d956"), looks := false }, kinds := [], alts := [], laidByText := true, laidKinds := [.data], laidTests := true, laidLooks := .later }
def WalOpensUptoCardSaid : Prop := Claim7.holds Tryd.pinned (.plain (OpenSpec.upto walOpensSpec)) walOpensUptoCard

/-- THE SECOND FORM's CARD OF 'ordinallaw12.WalBranches'. -/
def walBranchesUptoCard : Claim7 := { stood := { row := walBranchesUptoRow, standIns := [], harness := (true, "00e9f3c87c3bd3596d1bc7a228884a09049ce0e1be5e841b29f33b40fe21d956"), looks := false }, kinds := [], alts := [], laidByText := true, laidKinds := [.data], laidTests := true, laidLooks := .later }
def WalBranchesUptoCardSaid : Prop := Claim7.holds Tryd.pinned (.plain (OpenSpec.upto walBranchesSpec)) walBranchesUptoCard

/-- THE SECOND FORM's CARD OF 'ordinallaw12.WalRefuses'. -/
def walRefusesUptoCard : Claim7 := { stood := { row := walRefusesUptoRow, standIns := [], harness := (true, "00e9f3c87c3bd3596d1bc7a228884a09049ce0e1be5e841b29f33b40fe21d956"), looks := false }, kinds := [], alts := [], laidByText := true, laidKinds := [.data], laidTests := true, laidLooks := .later }
def WalRefusesUptoCardSaid : Prop := Claim7.holds Tryd.pinned (.plain (OpenSpec.upto walRefusesSpec)) walRefusesUptoCard

/-- THE SECOND FORM's CARD OF 'ordinallaw12.WalTorn'. -/
def walTornUptoCard : Claim7 := { stood := { row := walTornUptoRow, standIns := [], harness := (true, "00e9f3c87c3bd3596d1bc7a228884a09049ce0e1be5e841b29f33b40fe21d956"), looks := false }, kinds := [], alts := [], laidByText := true, laidKinds := [.data], laidTests := true, laidLooks := .later }
def WalTornUptoCardSaid : Prop := Claim7.holds Tryd.pinned (.plain (OpenSpec.upto walTornSpec)) walTornUptoCard

/-- THE SECOND FORM's CARD OF 'ordinallaw12.WalSurvives'. -/
def walSurvivesUptoCard : Claim7 := { stood := { row := walSurvivesUptoRow, standIns := [], harness := (true, "00e9f3c87c3bd3596d1bc7a228884a09049ce0e1be5e841b29f33b40fe21d956"), looks := false }, kinds := [], alts := [], laidByText := true, laidKinds := [.data], laidTests := true, laidLooks := .later }
def WalSurvivesUptoCardSaid : Prop := Claim7.holds Tryd.pinned (.plain (OpenSpec.upto walSurvivesSpec)) walSurvivesUptoCard

/-- THE SECOND FORM's CARD OF 'ordinallaw12.WalPlays'. -/
def walPlaysUptoCard : Claim7 := { stood := { row := walPlaysUptoRow, standIns := [], harness := (true, "00e9f3c87c3bd3596d1bc7a228884a09049ce0e1be5e841b29f33b40fe21d956"), looks := false }, kinds := [], alts := [], laidByText := true, laidKinds := [.data], laidTests := true, laidLooks := .later }
def WalPlaysUptoCardSaid : Prop := Claim7.holds Tryd.pinned (.plain (OpenSpec.upto walPlaysSpec)) walPlaysUptoCard
end Rows
end Go.Proofs.YtlokfndonjldpaaDoor
