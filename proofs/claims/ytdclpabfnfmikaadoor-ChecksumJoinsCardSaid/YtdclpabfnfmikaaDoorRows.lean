/-
  NARROWER THAN 'FOR EVERY INPUT', by the rows' own cells (each row's printed sentence says how): ChecksumSums: laid · ChecksumMixes: laid · ChecksumJoins: laid · ChecksumAffine: laid · ChecksumSplits: laid · ChecksumBursts: laid.
  DERIVED. THE GIVEN ROWS OF THIS SEAT. 6 by the template 'for every input the law returns true; each argument reads behind the call as it read before'; 0 by the template 'total and deterministic' (their statements: YtdclpabfnfmikaaDoorTotals.lean).
  GIVEN WITH THE SEED: the statements are not yours to turn. If you find one false, say at which input.
  Laid BY PROGRAM, IN A SANDBOX (cutbox-rows.mjs): the forced cells as the released guide's own fill.sh prints them over the translation 84ee269ffcf97db9… (all of the seat's roots in one cut). By AI agents, Wed Nov 11 2026. No macro, syntax, notation, axiom, sorry.
-/
import Derived.Test.YtdclpabfnfmikaaDoorChecked
import GoSem.Claim
import GoSem.ClaimJoined
import GoSem.ClaimMapViews
import Derived.JoinedTies
import Derived.KernelRfl
namespace Go.Proofs.YtdclpabfnfmikaaDoor
/- THE CELL 'sum', in the pinned program and in every row, IS THE sha256 OF THE DUMP (.gsa) THAT YtdclpabfnfmikaaDoorProg.lean LOADS. Nothing in Lean hashes anything: it is a label: what it is worth is what the hold of that sum in a sandbox is worth. -/
noncomputable def Tryd.pinned : Pinned := { name := "ytdclpabfnfmikaadoor", sum := "84ee269ffcf97db905e45e7696b01a81c635398d58a88fb4dce05c36d0989ecc", checked := Tryd.checked }
namespace Rows
def none {H : Type} : Left H := { results := [], args := [] }

/- WHAT THE LISTED PACKAGE-LEVEL VARIABLES READ AS WHEN THE CALL BEGINS. Each datum BY PROGRAM (the guide's laid-datum.mjs) off the statement by which the dump's own 'gosem.cut.vars' lays the variable. In a bare row this is a premise. The card (YtdclpabfnfmikaaDoorCards.lean) ties it to the program's text. -/
def laid_ordinal_checksum_remainders {H : Type} : DataW H := .agg [.lit (.int .u32 0), .lit (.int .u32 274646895), .lit (.int .u32 549293790), .lit (.int .u32 820201905), .lit (.int .u32 1098587580), .lit (.int .u32 1361435347), .lit (.int .u32 1640403810), .lit (.int .u32 1905808397), .lit (.int .u32 2197175160), .lit (.int .u32 2460548119), .lit (.int .u32 2722870694), .lit (.int .u32 2987750089), .lit (.int .u32 3280807620), .lit (.int .u32 3553878443), .lit (.int .u32 3811616794), .lit (.int .u32 4084100981)]

/-- 'ordinallaw09.ChecksumSums': WHATEVER THE INPUT: true; the input reads as it did. -/
def checksumSumsSpec : ChangeSpec := { name := "checksumSums", fn := fun _ => fun
  | [d1, d2] => { results := [.lit (.bool true)], args := [d1, d2] }
  | _ => none }
def checksumSumsRow : OpenClaim := { program := "ytdclpabfnfmikaadoor", sum := "84ee269ffcf97db905e45e7696b01a81c635398d58a88fb4dce05c36d0989ecc", func := "ordinal/ordinallaw09.ChecksumSums", spec := "checksumSums", named := ["ordinal/checksum.remainders"], apart := false, laid := [("ordinal/checksum.remainders", laid_ordinal_checksum_remainders)] }
def ChecksumSumsSaid : Prop := checksumSumsRow.holds Tryd.pinned (OpenSpec.ofChange checksumSumsSpec)

/-- ITS FALSE NEIGHBOUR: 'it returns false'. Refute it at one input. -/
def checksumSumsWrong : ChangeSpec := { name := "checksumSums", fn := fun _ => fun
  | [d1, d2] => { results := [.lit (.bool false)], args := [d1, d2] }
  | _ => none }
def ChecksumSumsWrongFalsely : Prop := checksumSumsRow.holds Tryd.pinned (OpenSpec.ofChange checksumSumsWrong)

/-- 'ordinallaw09.ChecksumMixes': WHATEVER THE INPUT: true; the input reads as it did. -/
def checksumMixesSpec : ChangeSpec := { name := "checksumMixes", fn := fun _ => fun
  | [d1, d2, d3] => { results := [.lit (.bool true)], args := [d1, d2, d3] }
  | _ => none }
def checksumMixesRow : OpenClaim := { program := "ytdclpabfnfmikaadoor", sum := "84ee269ffcf97db905e45e7696b01a81c635398d58a88fb4dce05c36d0989ecc", func := "ordinal/ordinallaw09.ChecksumMixes", spec := "checksumMixes", named := ["ordinal/checksum.remainders"], apart := false, laid := [("ordinal/checksum.remainders", laid_ordinal_checksum_remainders)] }
def ChecksumMixesSaid : Prop := checksumMixesRow.holds Tryd.pinned (OpenSpec.ofChange checksumMixesSpec)

/-- ITS FALSE NEIGHBOUR: 'it returns false'. Refute it at one input. -/
def checksumMixesWrong : ChangeSpec := { name := "checksumMixes", fn := fun _ => fun
  | [d1, d2, d3] => { results := [.lit (.bool false)], args := [d1, d2, d3] }
  | _ => none }
def ChecksumMixesWrongFalsely : Prop := checksumMixesRow.holds Tryd.pinned (OpenSpec.ofChange checksumMixesWrong)

/-- 'ordinallaw09.ChecksumJoins': WHATEVER THE INPUT: true; the input reads as it did. -/
def checksumJoinsSpec : ChangeSpec := { name := "checksumJoins", fn := fun _ => fun
  | [d] => { results := [.lit (.bool true)], args := [d] }
  | _ => none }
def checksumJoinsRow : OpenClaim := { program := "ytdclpabfnfmikaadoor", sum := "84ee269ffcf97db905e45e7696b01a81c635398d58a88fb4dce05c36d0989ecc", func := "ordinal/ordinallaw09.ChecksumJoins", spec := "checksumJoins", named := ["ordinal/checksum.remainders"], apart := false, laid := [("ordinal/checksum.remainders", laid_ordinal_checksum_remainders)] }
def ChecksumJoinsSaid : Prop := checksumJoinsRow.holds Tryd.pinned (OpenSpec.ofChange checksumJoinsSpec)

/-- ITS FALSE NEIGHBOUR: 'it returns false'. Refute it at one input. -/
def checksumJoinsWrong : ChangeSpec := { name := "checksumJoins", fn := fun _ => fun
  | [d] => { results := [.lit (.bool false)], args := [d] }
  | _ => none }
def ChecksumJoinsWrongFalsely : Prop := checksumJoinsRow.holds Tryd.pinned (OpenSpec.ofChange checksumJoinsWrong)

/-- 'ordinallaw09.ChecksumAffine': WHATEVER THE INPUT: true; the input reads as it did. -/
def checksumAffineSpec : ChangeSpec := { name := "checksumAffine", fn := fun _ => fun
  | [d1, d2] => { results := [.lit (.bool true)], args := [d1, d2] }
  | _ => none }
def checksumAffineRow : OpenClaim := { program := "ytdclpabfnfmikaadoor", sum := "84ee269ffcf97db905e45e7696b01a81c635398d58a88fb4dce05c36d0989ecc", func := "ordinal/ordinallaw09.ChecksumAffine", spec := "checksumAffine", named := ["ordinal/checksum.remainders"], apart := false, laid := [("ordinal/checksum.remainders", laid_ordinal_checksum_remainders)] }
def ChecksumAffineSaid : Prop := checksumAffineRow.holds Tryd.pinned (OpenSpec.ofChange checksumAffineSpec)

/-- ITS FALSE NEIGHBOUR: 'it returns false'. Refute it at one input. -/
def checksumAffineWrong : ChangeSpec := { name := "checksumAffine", fn := fun _ => fun
  | [d1, d2] => { results := [.lit (.bool false)], args := [d1, d2] }
  | _ => none }
def ChecksumAffineWrongFalsely : Prop := checksumAffineRow.holds Tryd.pinned (OpenSpec.ofChange checksumAffineWrong)

/-- 'ordinallaw09.ChecksumSplits': WHATEVER THE INPUT: true; the input reads as it did. -/
def checksumSplitsSpec : ChangeSpec := { name := "checksumSplits", fn := fun _ => fun
  | [d] => { results := [.lit (.bool true)], args := [d] }
  | _ => none }
def checksumSplitsRow : OpenClaim := { program := "ytdclpabfnfmikaadoor", sum := "84ee269ffcf97db905e45e7696b01a81c635398d58a88fb4dce05c36d0989ecc", func := "ordinal/ordinallaw09.ChecksumSplits", spec := "checksumSplits", named := ["ordinal/checksum.remainders"], apart := false, laid := [("ordinal/checksum.remainders", laid_ordinal_checksum_remainders)] }
def ChecksumSplitsSaid : Prop := checksumSplitsRow.holds Tryd.pinned (OpenSpec.ofChange checksumSplitsSpec)

/-- ITS FALSE NEIGHBOUR: 'it returns false'. Refute it at one input. -/
def checksumSplitsWrong : ChangeSpec := { name := "checksumSplits", fn := fun _ => fun
  | [d] => { results := [.lit (.bool false)], args := [d] }
  | _ => none }
def ChecksumSplitsWrongFalsely : Prop := checksumSplitsRow.holds Tryd.pinned (OpenSpec.ofChange checksumSplitsWrong)

/-- 'ordinallaw09.ChecksumBursts': WHATEVER THE INPUT: true; the input reads as it did. -/
def checksumBurstsSpec : ChangeSpec := { name := "checksumBursts", fn := fun _ => fun
  | [d1, d2, d3] => { results := [.lit (.bool true)], args := [d1, d2, d3] }
  | _ => none }
def checksumBurstsRow : OpenClaim := { program := "ytdclpabfnfmikaadoor", sum := "84ee269ffcf97db905e45e7696b01a81c635398d58a88fb4dce05c36d0989ecc", func := "ordinal/ordinallaw09.ChecksumBursts", spec := "checksumBursts", named := ["ordinal/checksum.remainders"], apart := false, laid := [("ordinal/checksum.remainders", laid_ordinal_checksum_remainders)] }
def ChecksumBurstsSaid : Prop := checksumBurstsRow.holds Tryd.pinned (OpenSpec.ofChange checksumBurstsSpec)

/-- ITS FALSE NEIGHBOUR: 'it returns false'. Refute it at one input. -/
def checksumBurstsWrong : ChangeSpec := { name := "checksumBursts", fn := fun _ => fun
  | [d1, d2, d3] => { results := [.lit (.bool false)], args := [d1, d2, d3] }
  | _ => none }
def ChecksumBurstsWrongFalsely : Prop := checksumBurstsRow.holds Tryd.pinned (OpenSpec.ofChange checksumBurstsWrong)

/- THE SECOND FORM. 'bulk': how many values and letters a reading holds, each counted each time it is reached (what is shared counts as often as it is met; a slice's spare places count too). A statement '..UptoSaid' is the law's where the arguments, and the package variables that the reading takes, are together of bulk at most 1048576: NARROWER than '..Said'. Prove '..Said' where nothing that the law and all that it calls make is longer than what came in: it says more and counts as full. Else prove '..UptoSaid'. A law counts once. -/
mutual
def uptoBulk {H : Type} : DataW H → Nat
  | .lit (.string bytes) => bytes.length + 1
  | .lit _ => 1
  | .nil => 1
  | .ptr d => uptoBulk d + 1
  | .slice elems spare => uptoBulkAll elems + uptoBulkAll spare + 1
  | .agg parts => uptoBulkAll parts + 1
  | .iface _ d => uptoBulk d + 1
  | .map entries => uptoBulkEntries entries + 1
  | .held _ => 1
def uptoBulkAll {H : Type} : List (DataW H) → Nat
  | [] => 0
  | d :: r => uptoBulk d + uptoBulkAll r
def uptoBulkEntries {H : Type} : List (Lit × DataW H) → Nat
  | [] => 0
  | x :: r => uptoBulkEntry x + uptoBulkEntries r
def uptoBulkEntry {H : Type} : Lit × DataW H → Nat
  | (.string bytes, d) => bytes.length + uptoBulk d + 1
  | (_, d) => uptoBulk d + 1
 end
def uptoSmall : (H : Type) → List (DataW H) → Bool := fun _ ds => decide (uptoBulkAll ds ≤ 1048576)
def OpenSpec.upto (s : _root_.Go.ChangeSpec) : _root_.Go.OpenSpec := { _root_.Go.OpenSpec.ofChange s with cond := some uptoSmall }

/-- 'ordinallaw09.ChecksumSums', WHERE WHAT IT READS IS OF BULK AT MOST 1048576: true; the input reads as it did. -/
def checksumSumsUptoRow : OpenClaim := { program := "ytdclpabfnfmikaadoor", sum := "84ee269ffcf97db905e45e7696b01a81c635398d58a88fb4dce05c36d0989ecc", func := "ordinal/ordinallaw09.ChecksumSums", spec := "checksumSums", named := ["ordinal/checksum.remainders"], apart := false, laid := [("ordinal/checksum.remainders", laid_ordinal_checksum_remainders)], narrowed := true }
def ChecksumSumsUptoSaid : Prop := checksumSumsUptoRow.holds Tryd.pinned (OpenSpec.upto checksumSumsSpec)

/-- 'ordinallaw09.ChecksumMixes', WHERE WHAT IT READS IS OF BULK AT MOST 1048576: true; the input reads as it did. -/
def checksumMixesUptoRow : OpenClaim := { program := "ytdclpabfnfmikaadoor", sum := "84ee269ffcf97db905e45e7696b01a81c635398d58a88fb4dce05c36d0989ecc", func := "ordinal/ordinallaw09.ChecksumMixes", spec := "checksumMixes", named := ["ordinal/checksum.remainders"], apart := false, laid := [("ordinal/checksum.remainders", laid_ordinal_checksum_remainders)], narrowed := true }
def ChecksumMixesUptoSaid : Prop := checksumMixesUptoRow.holds Tryd.pinned (OpenSpec.upto checksumMixesSpec)

/-- 'ordinallaw09.ChecksumJoins', WHERE WHAT IT READS IS OF BULK AT MOST 1048576: true; the input reads as it did. -/
def checksumJoinsUptoRow : OpenClaim := { program := "ytdclpabfnfmikaadoor", sum := "84ee269ffcf97db905e45e7696b01a81c635398d58a88fb4dce05c36d0989ecc", func := "ordinal/ordinallaw09.ChecksumJoins", spec := "checksumJoins", named := ["ordinal/checksum.remainders"], apart := false, laid := [("ordinal/checksum.remainders", laid_ordinal_checksum_remainders)], narrowed := true }
def ChecksumJoinsUptoSaid : Prop := checksumJoinsUptoRow.holds Tryd.pinned (OpenSpec.upto checksumJoinsSpec)

/-- 'ordinallaw09.ChecksumAffine', WHERE WHAT IT READS IS OF BULK AT MOST 1048576: true; the input reads as it did. -/
def checksumAffineUptoRow : OpenClaim := { program := "ytdclpabfnfmikaadoor", sum := "84ee269ffcf97db905e45e7696b01a81c635398d58a88fb4dce05c36d0989ecc", func := "ordinal/ordinallaw09.ChecksumAffine", spec := "checksumAffine", named := ["ordinal/checksum.remainders"], apart := false, laid := [("ordinal/checksum.remainders", laid_ordinal_checksum_remainders)], narrowed := true }
def ChecksumAffineUptoSaid : Prop := checksumAffineUptoRow.holds Tryd.pinned (OpenSpec.upto checksumAffineSpec)

/-- 'ordinallaw09.ChecksumSplits', WHERE WHAT IT READS IS OF BULK AT MOST 1048576: true; the input reads as it did. -/
def checksumSplitsUptoRow : OpenClaim := { program := "ytdclpabfnfmikaadoor", sum := "84ee269ffcf97db905e45e7696b01a81c635398d58a88fb4dce05c36d0989ecc", func := "ordinal/ordinallaw09.ChecksumSplits", spec := "checksumSplits", named := ["ordinal/checksum.remainders"], apart := false, laid := [("ordinal/checksum.remainders", laid_ordinal_checksum_remainders)], narrowed := true }
def ChecksumSplitsUptoSaid : Prop := checksumSplitsUptoRow.holds Tryd.pinned (OpenSpec.upto checksumSplitsSpec)

/-- 'ordinallaw09.ChecksumBursts', WHERE WHAT IT READS IS OF BULK AT MOST 1048576: true; the input reads as it did. -/
def checksumBurstsUptoRow : OpenClaim := { program := "ytdclpabfnfmikaadoor", sum := "84ee269ffcf97db905e45e7696b01a81c635398d58a88fb4dce05c36d0989ecc", func := "ordinal/ordinallaw09.ChecksumBursts", spec := "checksumBursts", named := ["ordinal/checksum.remainders"], apart := false, laid := [("ordinal/checksum.remainders", laid_ordinal_checksum_remainders)], narrowed := true }
def ChecksumBurstsUptoSaid : Prop := checksumBurstsUptoRow.holds Tryd.pinned (OpenSpec.upto checksumBurstsSpec)

end Rows
end Go.Proofs.YtdclpabfnfmikaaDoor
