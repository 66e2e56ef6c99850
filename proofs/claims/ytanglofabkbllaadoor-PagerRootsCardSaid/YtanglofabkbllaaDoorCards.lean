/-
  DERIVED. GIVEN WITH THE SEED: THE CARDS: each row of YtanglofabkbllaaDoorRows.lean that lists a variable, with what it lists TIED to the program's text (the seventh form; the later family's looks); each row that meets fmt, with fmt's text TOLD by the authors' own Lean function (tested against real Go, not proved from fmt's source: count such statements apart). THE CARD IS WHAT COUNTS. Prove the row's statement (the work); the ties are given (YtanglofabkbllaaDoorTie.lean); close each card by the builder's one call (the guide's Derived/Test/ToyasCard.lean, 'card_holds'). Laid BY PROGRAM, IN A SANDBOX (cutbox-door.mjs). By AI agents, Wed Nov 11 2026. No macro, syntax, notation, axiom, sorry.
-/
import Derived.Test.YtanglofabkbllaaDoorRows
import GoSem.ClaimSeven
namespace Go.Proofs.YtanglofabkbllaaDoor
namespace Rows

/-- THE TIED CARD OF 'ordinallaw13.PagerRefuses'. -/
def pagerRefusesCard : Claim7 := { stood := { row := pagerRefusesRow, standIns := [], harness := (true, "c9ab8b1f92e5158dec99eafd69441d57bb5170ed1930affa5ac1b9a7b69ea5c8"), looks := false }, kinds := [], alts := [], laidByText := true, laidKinds := [.data], laidTests := true, laidLooks := .later }
def PagerRefusesCardSaid : Prop := Claim7.holds Tryd.pinned (.plain (OpenSpec.ofChange pagerRefusesSpec)) pagerRefusesCard

/-- THE TIED CARD OF 'ordinallaw13.PagerInside'. -/
def pagerInsideCard : Claim7 := { stood := { row := pagerInsideRow, standIns := [], harness := (true, "c9ab8b1f92e5158dec99eafd69441d57bb5170ed1930affa5ac1b9a7b69ea5c8"), looks := false }, kinds := [], alts := [], laidByText := true, laidKinds := [.data], laidTests := true, laidLooks := .later }
def PagerInsideCardSaid : Prop := Claim7.holds Tryd.pinned (.plain (OpenSpec.ofChange pagerInsideSpec)) pagerInsideCard

/-- THE TIED CARD OF 'ordinallaw13.PagerEmpties'. -/
def pagerEmptiesCard : Claim7 := { stood := { row := pagerEmptiesRow, standIns := [], harness := (true, "c9ab8b1f92e5158dec99eafd69441d57bb5170ed1930affa5ac1b9a7b69ea5c8"), looks := false }, kinds := [], alts := [], laidByText := true, laidKinds := [.data], laidTests := true, laidLooks := .later }
def PagerEmptiesCardSaid : Prop := Claim7.holds Tryd.pinned (.plain (OpenSpec.ofChange pagerEmptiesSpec)) pagerEmptiesCard

/-- THE TIED CARD OF 'ordinallaw13.PagerRoots'. -/
def pagerRootsCard : Claim7 := { stood := { row := pagerRootsRow, standIns := [], harness := (true, "c9ab8b1f92e5158dec99eafd69441d57bb5170ed1930affa5ac1b9a7b69ea5c8"), looks := false }, kinds := [], alts := [], laidByText := true, laidKinds := [.data], laidTests := true, laidLooks := .later }
def PagerRootsCardSaid : Prop := Claim7.holds Tryd.pinned (.plain (OpenSpec.ofChange pagerRootsSpec)) pagerRootsCard

/-- THE TIED CARD OF 'ordinallaw13.PagerDoes'. -/
def pagerDoesCard : Claim7 := { stood := { row := pagerDoesRow, standIns := [], harness := (true, "c9ab8b1f92e5158dec99eafd69441d57bb5170ed1930affa5ac1b9a7b69ea5c8"), looks := false }, kinds := [], alts := [], laidByText := true, laidKinds := [.data], laidTests := true, laidLooks := .later }
def PagerDoesCardSaid : Prop := Claim7.holds Tryd.pinned (.plain (OpenSpec.ofChange pagerDoesSpec)) pagerDoesCard

/-- THE TIED CARD OF 'ordinallaw13.PagerCuts'. -/
def pagerCutsCard : Claim7 := { stood := { row := pagerCutsRow, standIns := [], harness := (true, "c9ab8b1f92e5158dec99eafd69441d57bb5170ed1930affa5ac1b9a7b69ea5c8"), looks := false }, kinds := [], alts := [], laidByText := true, laidKinds := [.data], laidTests := true, laidLooks := .later }
def PagerCutsCardSaid : Prop := Claim7.holds Tryd.pinned (.plain (OpenSpec.ofChange pagerCutsSpec)) pagerCutsCard

/-- THE TIED CARD OF 'ordinallaw13.PagerBranches'. -/
def pagerBranchesCard : Claim7 := { stood := { row := pagerBranchesRow, standIns := [], harness := (true, "c9ab8b1f92e5158dec99eafd69441d57bb5170ed1930affa5ac1b9a7b69ea5c8"), looks := false }, kinds := [], alts := [], laidByText := true, laidKinds := [.data], laidTests := true, laidLooks := .later }
def PagerBranchesCardSaid : Prop := Claim7.holds Tryd.pinned (.plain (OpenSpec.ofChange pagerBranchesSpec)) pagerBranchesCard

/-- THE SECOND FORM's CARD OF 'ordinallaw13.PagerRefuses'. -/
def pagerRefusesUptoCard : Claim7 := { stood := { row := pagerRefusesUptoRow, standIns := [], harness := (true, "c9ab8b1f92e5158dec99eafd69441d57bb5170ed1930affa5ac1b9a7b69ea5c8"), looks := false }, kinds := [], alts := [], laidByText := true, laidKinds := [.data], laidTests := true, laidLooks := .later }
def PagerRefusesUptoCardSaid : Prop := Claim7.holds Tryd.pinned (.plain (OpenSpec.upto pagerRefusesSpec)) pagerRefusesUptoCard

/-- THE SECOND FORM's CARD OF 'ordinallaw13.PagerInside'. -/
def pagerInsideUptoCard : Claim7 := { stood := { row := pagerInsideUptoRow, standIns := [], harness := (true, "c9ab8b1f92e5158dec99eafd69441d57bb5170ed1930affa5ac1b9a7b69ea5c8"), looks := false }, kinds := [], alts := [], laidByText := true, laidKinds := [.data], laidTests := true, laidLooks := .later }
def PagerInsideUptoCardSaid : Prop := Claim7.holds Tryd.pinned (.plain (OpenSpec.upto pagerInsideSpec)) pagerInsideUptoCard

/-- THE SECOND FORM's CARD OF 'ordinallaw13.PagerEmpties'. -/
def pagerEmptiesUptoCard : Claim7 := { stood := { row := pagerEmptiesUptoRow, standIns := [], harness := (true, "c9ab8b1f92e5158dec99eafd69441d57bb5170ed1930affa5ac1b9a7b69ea5c8"), looks := false }, kinds := [], alts := [], laidByText := true, laidKinds := [.data], laidTests := true, laidLooks := .later }
def PagerEmptiesUptoCardSaid : Prop := Claim7.holds Tryd.pinned (.plain (OpenSpec.upto pagerEmptiesSpec)) pagerEmptiesUptoCard

/-- THE SECOND FORM's CARD OF 'ordinallaw13.PagerRoots'. -/
def pagerRootsUptoCard : Claim7 := { stood := { row := pagerRootsUptoRow, standIns := [], harness := (true, "c9ab8b1f92e5158dec99eafd69441d57bb5170ed1930affa5ac1b9a7b69ea5c8"), looks := false }, kinds := [], alts := [], laidByText := true, laidKinds := [.data], laidTests := true, laidLooks := .later }
def PagerRootsUptoCardSaid : Prop := Claim7.holds Tryd.pinned (.plain (OpenSpec.upto pagerRootsSpec)) pagerRootsUptoCard

/-- THE SECOND FORM's CARD OF 'ordinallaw13.PagerDoes'. -/
def pagerDoesUptoCard : Claim7 := { stood := { row := pagerDoesUptoRow, standIns := [], harness := (true, "c9ab8b1f92e5158dec99eafd69441d57bb5170ed1930affa5ac1b9a7b69ea5c8"), looks := false }, kinds := [], alts := [], laidByText := true, laidKinds := [.data], laidTests := true, laidLooks := .later }
def PagerDoesUptoCardSaid : Prop := Claim7.holds Tryd.pinned (.plain (OpenSpec.upto pagerDoesSpec)) pagerDoesUptoCard

/-- THE SECOND FORM's CARD OF 'ordinallaw13.PagerCuts'. -/
def pagerCutsUptoCard : Claim7 := { stood := { row := pagerCutsUptoRow, standIns := [], harness := (true, "c9ab8b1f92e5158dec99eafd69441d57bb5170ed1930affa5ac1b9a7b69ea5c8"), looks := false }, kinds := [], alts := [], laidByText := true, laidKinds := [.data], laidTests := true, laidLooks := .later }
def PagerCutsUptoCardSaid : Prop := Claim7.holds Tryd.pinned (.plain (OpenSpec.upto pagerCutsSpec)) pagerCutsUptoCard

/-- THE SECOND FORM's CARD OF 'ordinallaw13.PagerBranches'. -/
def pagerBranchesUptoCard : Claim7 := { stood := { row := pagerBranchesUptoRow, standIns := [], harness := (true, "c9ab8b1f92e5158dec99eafd69441d57bb5170ed1930affa5ac1b9a7b69ea5c8"), looks := false }, kinds := [], alts := [], laidByText := true, laidKinds := [.data], laidTests := true, laidLooks := .later }
def PagerBranchesUptoCardSaid : Prop := Claim7.holds Tryd.pinned (.plain (OpenSpec.upto pagerBranchesSpec)) pagerBranchesUptoCard
end Rows
end Go.Proofs.YtanglofabkbllaaDoor
