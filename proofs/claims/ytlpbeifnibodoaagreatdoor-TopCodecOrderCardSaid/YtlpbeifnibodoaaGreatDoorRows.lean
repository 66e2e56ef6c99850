/-
  NARROWER THAN 'FOR EVERY INPUT', by the rows' own cells (each row's printed sentence says how): TopStored: laid · TopCodecOrder: laid.
  DERIVED. THE GIVEN ROWS OF THIS SEAT. 2 by the template 'for every input the law returns true; each argument reads behind the call as it read before'; 0 by the template 'total and deterministic' (their statements: YtlpbeifnibodoaaGreatDoorTotals.lean).
  GIVEN WITH THE SEED: the statements are not yours to turn. If you find one false, say at which input.
  Laid BY PROGRAM, IN A SANDBOX (cutbox-rows.mjs): the forced cells as the released guide's own fill.sh prints them over the translation 4236a252892a89f8… (all of the seat's roots in one cut). By AI agents, Wed Nov 11 2026. No macro, syntax, notation, axiom, sorry.
-/
import Derived.Test.YtlpbeifnibodoaaGreatDoorChecked
import GoSem.Claim
import GoSem.ClaimJoined
import GoSem.ClaimMapViews
import Derived.JoinedTies
import Derived.KernelRfl
namespace Go.Proofs.YtlpbeifnibodoaaGreatDoor
/- THE CELL 'sum', in the pinned program and in every row, IS THE sha256 OF THE DUMP (.gsa) THAT YtlpbeifnibodoaaGreatDoorProg.lean LOADS. Nothing in Lean hashes anything: it is a label: what it is worth is what the hold of that sum in a sandbox is worth. -/
noncomputable def Tryz.pinned : Pinned := { name := "ytlpbeifnibodoaagreatdoor", sum := "4236a252892a89f81215f95951ea3c19bd458bc3186ed821ce8ecf6595acdbba", checked := Tryz.checked }
namespace Rows
def none {H : Type} : Left H := { results := [], args := [] }

/- WHAT THE LISTED PACKAGE-LEVEL VARIABLES READ AS WHEN THE CALL BEGINS. Each datum BY PROGRAM (the guide's laid-datum.mjs) off the statement by which the dump's own 'gosem.cut.vars' lays the variable. In a bare row this is a premise. The card (YtlpbeifnibodoaaGreatDoorCards.lean) ties it to the program's text. -/
def laid_ordinal_checksum_remainders {H : Type} : DataW H := .agg [.lit (.int .u32 0), .lit (.int .u32 274646895), .lit (.int .u32 549293790), .lit (.int .u32 820201905), .lit (.int .u32 1098587580), .lit (.int .u32 1361435347), .lit (.int .u32 1640403810), .lit (.int .u32 1905808397), .lit (.int .u32 2197175160), .lit (.int .u32 2460548119), .lit (.int .u32 2722870694), .lit (.int .u32 2987750089), .lit (.int .u32 3280807620), .lit (.int .u32 3553878443), .lit (.int .u32 3811616794), .lit (.int .u32 4084100981)]

/-- 'ordinaltop.TopStored': WHATEVER THE INPUT: true; the input reads as it did. -/
def topStoredSpec : ChangeSpec := { name := "topStored", fn := fun _ => fun
  | [d1, d2, d3] => { results := [.lit (.bool true)], args := [d1, d2, d3] }
  | _ => none }
def topStoredRow : OpenClaim := { program := "ytlpbeifnibodoaagreatdoor", sum := "4236a252892a89f81215f95951ea3c19bd458bc3186ed821ce8ecf6595acdbba", func := "ordinal/ordinaltop.TopStored", spec := "topStored", inPlace := ["internal/bytealg.Compare", "slices.overlaps[[]byte]", "slices.overlaps[int]", "maps.clone", "internal/bytealg.abigen_runtime_cmpstring", "internal/bytealg.IndexByte", "internal/bytealg.Index"], unfollowed := true, recurses := true, named := ["ordinal/checksum.remainders", "internal/bytealg.MaxLen"], apart := false, laid := [("ordinal/checksum.remainders", laid_ordinal_checksum_remainders)] }
def TopStoredSaid : Prop := topStoredRow.holds Tryz.pinned (OpenSpec.ofChange topStoredSpec)

/-- ITS FALSE NEIGHBOUR: 'it returns false'. Refute it at one input. -/
def topStoredWrong : ChangeSpec := { name := "topStored", fn := fun _ => fun
  | [d1, d2, d3] => { results := [.lit (.bool false)], args := [d1, d2, d3] }
  | _ => none }
def TopStoredWrongFalsely : Prop := topStoredRow.holds Tryz.pinned (OpenSpec.ofChange topStoredWrong)

/-- 'ordinaltop.TopCodecOrder': WHATEVER THE INPUT: true; the input reads as it did. -/
def topCodecOrderSpec : ChangeSpec := { name := "topCodecOrder", fn := fun _ => fun
  | [d1, d2] => { results := [.lit (.bool true)], args := [d1, d2] }
  | _ => none }
def topCodecOrderRow : OpenClaim := { program := "ytlpbeifnibodoaagreatdoor", sum := "4236a252892a89f81215f95951ea3c19bd458bc3186ed821ce8ecf6595acdbba", func := "ordinal/ordinaltop.TopCodecOrder", spec := "topCodecOrder", inPlace := ["internal/bytealg.Compare", "internal/bytealg.abigen_runtime_cmpstring", "maps.clone", "slices.overlaps[[]byte]", "slices.overlaps[int]", "internal/bytealg.IndexByte", "internal/bytealg.Index"], unfollowed := true, recurses := true, named := ["ordinal/checksum.remainders", "internal/bytealg.MaxLen"], apart := false, laid := [("ordinal/checksum.remainders", laid_ordinal_checksum_remainders)] }
def TopCodecOrderSaid : Prop := topCodecOrderRow.holds Tryz.pinned (OpenSpec.ofChange topCodecOrderSpec)

/-- ITS FALSE NEIGHBOUR: 'it returns false'. Refute it at one input. -/
def topCodecOrderWrong : ChangeSpec := { name := "topCodecOrder", fn := fun _ => fun
  | [d1, d2] => { results := [.lit (.bool false)], args := [d1, d2] }
  | _ => none }
def TopCodecOrderWrongFalsely : Prop := topCodecOrderRow.holds Tryz.pinned (OpenSpec.ofChange topCodecOrderWrong)

/- THE SECOND FORM. 'bulk': how many values and letters a reading holds, each counted each time it is reached (what is shared counts as often as it is met; a slice's spare places count too). A statement '..UptoSaid' is the law's where the arguments, and the package variables that the reading takes, are together of bulk at most 1048576: NARROWER than '..Said'. Prove '..Said' where nothing that the law and all that it calls make is longer than what came in: it says more and counts as full. Else prove '..UptoSaid'. A law counts once. -/
mutual
def uptoBulk {H : Type} : DataW H → Nat
  | .lit (.string bytes) => bytes.length + 1
  | .lit _ => 1
  | .nil => 1
  | .ptr d => uptoBulk d + 1
  | .slice elems spare => uptoBulkAll elems + uptoBulkAll spare + 1
  | .agg parts => uptoBulkAll parts + 1
  | .iface _ d => uptoBulk d + 1
  | .map entries => uptoBulkEntries entries + 1
  | .held _ => 1
def uptoBulkAll {H : Type} : List (DataW H) → Nat
  | [] => 0
  | d :: r => uptoBulk d + uptoBulkAll r
def uptoBulkEntries {H : Type} : List (Lit × DataW H) → Nat
  | [] => 0
  | x :: r => uptoBulkEntry x + uptoBulkEntries r
def uptoBulkEntry {H : Type} : Lit × DataW H → Nat
  | (.string bytes, d) => bytes.length + uptoBulk d + 1
  | (_, d) => uptoBulk d + 1
 end
def uptoSmall : (H : Type) → List (DataW H) → Bool := fun _ ds => decide (uptoBulkAll ds ≤ 1048576)
def OpenSpec.upto (s : _root_.Go.ChangeSpec) : _root_.Go.OpenSpec := { _root_.Go.OpenSpec.ofChange s with cond := some uptoSmall }

/-- 'ordinaltop.TopStored', WHERE WHAT IT READS IS OF BULK AT MOST 1048576: true; the input reads as it did. -/
def topStoredUptoRow : OpenClaim := { program := "ytlpbeifnibodoaagreatdoor", sum := "4236a252892a89f81215f95951ea3c19bd458bc3186ed821ce8ecf6595acdbba", func := "ordinal/ordinaltop.TopStored", spec := "topStored", inPlace := ["internal/bytealg.Compare", "slices.overlaps[[]byte]", "slices.overlaps[int]", "maps.clone", "internal/bytealg.abigen_runtime_cmpstring", "internal/bytealg.IndexByte", "internal/bytealg.Index"], unfollowed := true, recurses := true, named := ["ordinal/checksum.remainders", "internal/bytealg.MaxLen"], apart := false, laid := [("ordinal/checksum.remainders", laid_ordinal_checksum_remainders)], narrowed := true }
def TopStoredUptoSaid : Prop := topStoredUptoRow.holds Tryz.pinned (OpenSpec.upto topStoredSpec)

/-- 'ordinaltop.TopCodecOrder', WHERE WHAT IT READS IS OF BULK AT MOST 1048576: true; the input reads as it did. -/
def topCodecOrderUptoRow : OpenClaim := { program := "ytlpbeifnibodoaagreatdoor", sum := "4236a252892a89f81215f95951ea3c19bd458bc3186ed821ce8ecf6595acdbba", func := "ordinal/ordinaltop.TopCodecOrder", spec := "topCodecOrder", inPlace := ["internal/bytealg.Compare", "internal/bytealg.abigen_runtime_cmpstring", "maps.clone", "slices.overlaps[[]byte]", "slices.overlaps[int]", "internal/bytealg.IndexByte", "internal/bytealg.Index"], unfollowed := true, recurses := true, named := ["ordinal/checksum.remainders", "internal/bytealg.MaxLen"], apart := false, laid := [("ordinal/checksum.remainders", laid_ordinal_checksum_remainders)], narrowed := true }
def TopCodecOrderUptoSaid : Prop := topCodecOrderUptoRow.holds Tryz.pinned (OpenSpec.upto topCodecOrderSpec)

end Rows
end Go.Proofs.YtlpbeifnibodoaaGreatDoor
