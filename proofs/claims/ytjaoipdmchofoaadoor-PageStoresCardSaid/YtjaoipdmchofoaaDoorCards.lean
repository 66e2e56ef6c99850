/-
  DERIVED. GIVEN WITH THE SEED: THE CARDS: each row of YtjaoipdmchofoaaDoorRows.lean that lists a variable, with what it lists TIED to the program's text (the seventh form; the later family's looks); each row that meets fmt, with fmt's text TOLD by the authors' own Lean function (tested against real Go, not proved from fmt's source: count such statements apart). THE CARD IS WHAT COUNTS. Prove the row's statement (the work); the ties are given (YtjaoipdmchofoaaDoorTie.lean); close each card by the builder's one call (the guide's Derived/Test/ToyasCard.lean, 'card_holds'). Laid BY PROGRAM, IN A SANDBOX (cutbox-door.mjs). By AI agents, Wed Nov 11 2026. No macro, syntax, notation, axiom, sorry.
-/
import Derived.Test.YtjaoipdmchofoaaDoorRows
import GoSem.ClaimSeven
namespace Go.Proofs.YtjaoipdmchofoaaDoor
namespace Rows

/-- THE TIED CARD OF 'ordinallaw11.PageEncodes'. -/
def pageEncodesCard : Claim7 := { stood := { row := pageEncodesRow, standIns := [], harness := (true, "072000883498f7b3a13579cb7093759e256c762459a47c25abec9bd85585c39a"), looks := false }, kinds := [], alts := [], laidByText := true, laidKinds := [.data], laidTests := true, laidLooks := .later }
def PageEncodesCardSaid : Prop := Claim7.holds Tryd.pinned (.plain (OpenSpec.ofChange pageEncodesSpec)) pageEncodesCard

/-- THE TIED CARD OF 'ordinallaw11.PageDecodes'. -/
def pageDecodesCard : Claim7 := { stood := { row := pageDecodesRow, standIns := [], harness := (true, "072000883498f7b3a13579cb7093759e256c762459a47c25abec9bd85585c39a"), looks := false }, kinds := [], alts := [], laidByText := true, laidKinds := [.data], laidTests := true, laidLooks := .later }
def PageDecodesCardSaid : Prop := Claim7.holds Tryd.pinned (.plain (OpenSpec.ofChange pageDecodesSpec)) pageDecodesCard

/-- THE TIED CARD OF 'ordinallaw11.PageBytes'. -/
def pageBytesCard : Claim7 := { stood := { row := pageBytesRow, standIns := [], harness := (true, "072000883498f7b3a13579cb7093759e256c762459a47c25abec9bd85585c39a"), looks := false }, kinds := [], alts := [], laidByText := true, laidKinds := [.data], laidTests := true, laidLooks := .later }
def PageBytesCardSaid : Prop := Claim7.holds Tryd.pinned (.plain (OpenSpec.ofChange pageBytesSpec)) pageBytesCard

/-- THE TIED CARD OF 'ordinallaw11.PageDetects'. -/
def pageDetectsCard : Claim7 := { stood := { row := pageDetectsRow, standIns := [], harness := (true, "072000883498f7b3a13579cb7093759e256c762459a47c25abec9bd85585c39a"), looks := false }, kinds := [], alts := [], laidByText := true, laidKinds := [.data], laidTests := true, laidLooks := .later }
def PageDetectsCardSaid : Prop := Claim7.holds Tryd.pinned (.plain (OpenSpec.ofChange pageDetectsSpec)) pageDetectsCard

/-- THE TIED CARD OF 'ordinallaw11.PageApart'. -/
def pageApartCard : Claim7 := { stood := { row := pageApartRow, standIns := [], harness := (true, "072000883498f7b3a13579cb7093759e256c762459a47c25abec9bd85585c39a"), looks := false }, kinds := [], alts := [], laidByText := true, laidKinds := [.data], laidTests := true, laidLooks := .later }
def PageApartCardSaid : Prop := Claim7.holds Tryd.pinned (.plain (OpenSpec.ofChange pageApartSpec)) pageApartCard

/-- THE TIED CARD OF 'ordinallaw11.PageCrashes'. -/
def pageCrashesCard : Claim7 := { stood := { row := pageCrashesRow, standIns := [], harness := (true, "072000883498f7b3a13579cb7093759e256c762459a47c25abec9bd85585c39a"), looks := false }, kinds := [], alts := [], laidByText := true, laidKinds := [.data], laidTests := true, laidLooks := .later }
def PageCrashesCardSaid : Prop := Claim7.holds Tryd.pinned (.plain (OpenSpec.ofChange pageCrashesSpec)) pageCrashesCard

/-- THE TIED CARD OF 'ordinallaw11.PageStores'. -/
def pageStoresCard : Claim7 := { stood := { row := pageStoresRow, standIns := [], harness := (true, "072000883498f7b3a13579cb7093759e256c762459a47c25abec9bd85585c39a"), looks := false }, kinds := [], alts := [], laidByText := true, laidKinds := [.data], laidTests := true, laidLooks := .later }
def PageStoresCardSaid : Prop := Claim7.holds Tryd.pinned (.plain (OpenSpec.ofChange pageStoresSpec)) pageStoresCard

/-- THE SECOND FORM's CARD OF 'ordinallaw11.PageEncodes'. -/
def pageEncodesUptoCard : Claim7 := { stood := { row := pageEncodesUptoRow, standIns := [], harness := (true, "072000883498f7b3a13579cb7093759e256c762459a47c25abec9bd85585c39a"), looks := false }, kinds := [], alts := [], laidByText := true, laidKinds := [.data], laidTests := true, laidLooks := .later }
def PageEncodesUptoCardSaid : Prop := Claim7.holds Tryd.pinned (.plain (OpenSpec.upto pageEncodesSpec)) pageEncodesUptoCard

/-- THE SECOND FORM's CARD OF 'ordinallaw11.PageDecodes'. -/
def pageDecodesUptoCard : Claim7 := { stood := { row := pageDecodesUptoRow, standIns := [], harness := (true, "072000883498f7b3a13579cb7093759e256c762459a47c25abec9bd85585c39a"), looks := false }, kinds := [], alts := [], laidByText := true, laidKinds := [.data], laidTests := true, laidLooks := .later }
def PageDecodesUptoCardSaid : Prop := Claim7.holds Tryd.pinned (.plain (OpenSpec.upto pageDecodesSpec)) pageDecodesUptoCard

/-- THE SECOND FORM's CARD OF 'ordinallaw11.PageBytes'. -/
def pageBytesUptoCard : Claim7 := { stood := { row := pageBytesUptoRow, standIns := [], harness := (true, "072000883498f7b3a13579cb7093759e256c762459a47c25abec9bd85585c39a"), looks := false }, kinds := [], alts := [], laidByText := true, laidKinds := [.data], laidTests := true, laidLooks := .later }
def PageBytesUptoCardSaid : Prop := Claim7.holds Tryd.pinned (.plain (OpenSpec.upto pageBytesSpec)) pageBytesUptoCard

/-- THE SECOND FORM's CARD OF 'ordinallaw11.PageDetects'. -/
def pageDetectsUptoCard : Claim7 := { stood := { row := pageDetectsUptoRow, standIns := [], harness := (true, "072000883498f7b3a13579cb7093759e256c762459a47c25abec9bd85585c39a"), looks := false }, kinds := [], alts := [], laidByText := true, laidKinds := [.data], laidTests := true, laidLooks := .later }
def PageDetectsUptoCardSaid : Prop := Claim7.holds Tryd.pinned (.plain (OpenSpec.upto pageDetectsSpec)) pageDetectsUptoCard

/-- THE SECOND FORM's CARD OF 'ordinallaw11.PageApart'. -/
def pageApartUptoCard : Claim7 := { stood := { row := pageApartUptoRow, standIns := [], harness := (true, "072000883498f7b3a13579cb7093759e256c762459a47c25abec9bd85585c39a"), looks := false }, kinds := [], alts := [], laidByText := true, laidKinds := [.data], laidTests := true, laidLooks := .later }
def PageApartUptoCardSaid : Prop := Claim7.holds Tryd.pinned (.plain (OpenSpec.upto pageApartSpec)) pageApartUptoCard

/-- THE SECOND FORM's CARD OF 'ordinallaw11.PageCrashes'. -/
def pageCrashesUptoCard : Claim7 := { stood := { row := pageCrashesUptoRow, standIns := [], harness := (true, "072000883498f7b3a13579cb7093759e256c762459a47c25abec9bd85585c39a"), looks := false }, kinds := [], alts := [], laidByText := true, laidKinds := [.data], laidTests := true, laidLooks := .later }
def PageCrashesUptoCardSaid : Prop := Claim7.holds Tryd.pinned (.plain (OpenSpec.upto pageCrashesSpec)) pageCrashesUptoCard

/-- THE SECOND FORM's CARD OF 'ordinallaw11.PageStores'. -/
def pageStoresUptoCard : Claim7 := { stood := { row := pageStoresUptoRow, standIns := [], harness := (true, "072000883498f7b3a13579cb7093759e256c762459a47c25abec9bd85585c39a"), looks := false }, kinds := [], alts := [], laidByText := true, laidKinds := [.data], laidTests := true, laidLooks := .later }
def PageStoresUptoCardSaid : Prop := Claim7.holds Tryd.pinned (.plain (OpenSpec.upto pageStoresSpec)) pageStoresUptoCard
end Rows
end Go.Proofs.YtjaoipdmchofoaaDoor
