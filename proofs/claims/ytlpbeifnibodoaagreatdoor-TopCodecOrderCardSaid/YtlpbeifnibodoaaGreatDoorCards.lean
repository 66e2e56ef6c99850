/-
  DERIVED. GIVEN WITH THE SEED: THE CARDS: each row of YtlpbeifnibodoaaGreatDoorRows.lean that lists a variable, with what it lists TIED to the program's text (the seventh form; the later family's looks); each row that meets fmt, with fmt's text TOLD by the authors' own Lean function (tested against real Go, not proved from fmt's source: count such statements apart). THE CARD IS WHAT COUNTS. Prove the row's statement (the work); the ties are given (YtlpbeifnibodoaaGreatDoorTie.lean); close each card by the builder's one call (the guide's Derived/Test/ToyasCard.lean, 'card_holds'). Laid BY PROGRAM, IN A SANDBOX (cutbox-door.mjs). By AI agents, Wed Nov 11 2026. No macro, syntax, notation, axiom, sorry.
-/
import Derived.Test.YtlpbeifnibodoaaGreatDoorRows
import GoSem.ClaimSeven
namespace Go.Proofs.YtlpbeifnibodoaaGreatDoor
namespace Rows

/-- THE TIED CARD OF 'ordinaltop.TopStored'. -/
def topStoredCard : Claim7 := { stood := { row := topStoredRow, standIns := [], harness := (true, "5eb15970a3a433a6af0ff9be74a259c96409e44be54bf08de452ec6f981f9be0"), looks := true }, kinds := [], alts := [], laidByText := true, laidKinds := [.data], laidTests := true, laidLooks := .later }
def TopStoredCardSaid : Prop := Claim7.holds Tryz.pinned (.plain (OpenSpec.ofChange topStoredSpec)) topStoredCard

/-- THE TIED CARD OF 'ordinaltop.TopCodecOrder'. -/
def topCodecOrderCard : Claim7 := { stood := { row := topCodecOrderRow, standIns := [], harness := (true, "5eb15970a3a433a6af0ff9be74a259c96409e44be54bf08de452ec6f981f9be0"), looks := true }, kinds := [], alts := [], laidByText := true, laidKinds := [.data], laidTests := true, laidLooks := .later }
def TopCodecOrderCardSaid : Prop := Claim7.holds Tryz.pinned (.plain (OpenSpec.ofChange topCodecOrderSpec)) topCodecOrderCard

/-- THE SECOND FORM's CARD OF 'ordinaltop.TopStored'. -/
def topStoredUptoCard : Claim7 := { stood := { row := topStoredUptoRow, standIns := [], harness := (true, "5eb15970a3a433a6af0ff9be74a259c96409e44be54bf08de452ec6f981f9be0"), looks := true }, kinds := [], alts := [], laidByText := true, laidKinds := [.data], laidTests := true, laidLooks := .later }
def TopStoredUptoCardSaid : Prop := Claim7.holds Tryz.pinned (.plain (OpenSpec.upto topStoredSpec)) topStoredUptoCard

/-- THE SECOND FORM's CARD OF 'ordinaltop.TopCodecOrder'. -/
def topCodecOrderUptoCard : Claim7 := { stood := { row := topCodecOrderUptoRow, standIns := [], harness := (true, "5eb15970a3a433a6af0ff9be74a259c96409e44be54bf08de452ec6f981f9be0"), looks := true }, kinds := [], alts := [], laidByText := true, laidKinds := [.data], laidTests := true, laidLooks := .later }
def TopCodecOrderUptoCardSaid : Prop := Claim7.holds Tryz.pinned (.plain (OpenSpec.upto topCodecOrderSpec)) topCodecOrderUptoCard
end Rows
end Go.Proofs.YtlpbeifnibodoaaGreatDoor
