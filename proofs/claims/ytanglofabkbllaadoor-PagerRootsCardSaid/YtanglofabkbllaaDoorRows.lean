/-
  NARROWER THAN 'FOR EVERY INPUT', by the rows' own cells (each row's printed sentence says how): PagerRefuses: laid · PagerInside: laid · PagerEmpties: laid · PagerRoots: laid · PagerDoes: laid · PagerCuts: laid · PagerBranches: laid.
  DERIVED. THE GIVEN ROWS OF THIS SEAT. 7 by the template 'for every input the law returns true; each argument reads behind the call as it read before'; 0 by the template 'total and deterministic' (their statements: YtanglofabkbllaaDoorTotals.lean).
  GIVEN WITH THE SEED: the statements are not yours to turn. If you find one false, say at which input.
  Laid BY PROGRAM, IN A SANDBOX (cutbox-rows.mjs): the forced cells as the released guide's own fill.sh prints them over the translation 5cb5909e405fd6b0… (all of the seat's roots in one cut). By AI agents, Wed Nov 11 2026. No macro, syntax, notation, axiom, sorry.
-/
import Derived.Test.YtanglofabkbllaaDoorChecked
import GoSem.Claim
import GoSem.ClaimJoined
import GoSem.ClaimMapViews
import Derived.JoinedTies
import Derived.KernelRfl
namespace Go.Proofs.YtanglofabkbllaaDoor
/- THE CELL 'sum', in the pinned program and in every row, IS THE sha256 OF THE DUMP (.gsa) THAT YtanglofabkbllaaDoorProg.lean LOADS. Nothing in Lean hashes anything: it is a label: what it is worth is what the hold of that sum in a sandbox is worth. -/
noncomputable def Tryd.pinned : Pinned := { name := "ytanglofabkbllaadoor", sum := "5cb5909e405fd6b0b7c1d1149197a5921d0d79cd5d34a4115d98c44b5c933d65", checked := Tryd.checked }
namespace Rows
def none {H : Type} : Left H := { results := [], args := [] }

/- WHAT THE LISTED PACKAGE-LEVEL VARIABLES READ AS WHEN THE CALL BEGINS. Each datum BY PROGRAM (the guide's laid-datum.mjs) off the statement by which the dump's own 'gosem.cut.vars' lays the variable. In a bare row this is a premise. The card (YtanglofabkbllaaDoorCards.lean) ties it to the program's text. -/
def laid_ordinal_checksum_remainders {H : Type} : DataW H := .agg [.lit (.int .u32 0), .lit (.int .u32 274646895), .lit (.int .u32 549293790), .lit (.int .u32 820201905), .lit (.int .u32 1098587580), .lit (.int .u32 1361435347), .lit (.int .u32 1640403810), .lit (.int .u32 1905808397), .lit (.int .u32 2197175160), .lit (.int .u32 2460548119), .lit (.int .u32 2722870694), .lit (.int .u32 2987750089), .lit (.int .u32 3280807620), .lit (.int .u32 3553878443), .lit (.int .u32 3811616794), .lit (.int .u32 4084100981)]

/-- 'ordinallaw13.PagerRefuses': WHATEVER THE INPUT: true; the input reads as it did. -/
def pagerRefusesSpec : ChangeSpec := { name := "pagerRefuses", fn := fun _ => fun
  | [d1, d2, d3] => { results := [.lit (.bool true)], args := [d1, d2, d3] }
  | _ => none }
def pagerRefusesRow : OpenClaim := { program := "ytanglofabkbllaadoor", sum := "5cb5909e405fd6b0b7c1d1149197a5921d0d79cd5d34a4115d98c44b5c933d65", func := "ordinal/ordinallaw13.PagerRefuses", spec := "pagerRefuses", named := ["ordinal/checksum.remainders"], apart := false, laid := [("ordinal/checksum.remainders", laid_ordinal_checksum_remainders)] }
def PagerRefusesSaid : Prop := pagerRefusesRow.holds Tryd.pinned (OpenSpec.ofChange pagerRefusesSpec)

/-- ITS FALSE NEIGHBOUR: 'it returns false'. Refute it at one input. -/
def pagerRefusesWrong : ChangeSpec := { name := "pagerRefuses", fn := fun _ => fun
  | [d1, d2, d3] => { results := [.lit (.bool false)], args := [d1, d2, d3] }
  | _ => none }
def PagerRefusesWrongFalsely : Prop := pagerRefusesRow.holds Tryd.pinned (OpenSpec.ofChange pagerRefusesWrong)

/-- 'ordinallaw13.PagerInside': WHATEVER THE INPUT: true; the input reads as it did. -/
def pagerInsideSpec : ChangeSpec := { name := "pagerInside", fn := fun _ => fun
  | [d1, d2, d3] => { results := [.lit (.bool true)], args := [d1, d2, d3] }
  | _ => none }
def pagerInsideRow : OpenClaim := { program := "ytanglofabkbllaadoor", sum := "5cb5909e405fd6b0b7c1d1149197a5921d0d79cd5d34a4115d98c44b5c933d65", func := "ordinal/ordinallaw13.PagerInside", spec := "pagerInside", inPlace := ["internal/bytealg.MakeNoZero"], named := ["ordinal/checksum.remainders"], apart := false, laid := [("ordinal/checksum.remainders", laid_ordinal_checksum_remainders)] }
def PagerInsideSaid : Prop := pagerInsideRow.holds Tryd.pinned (OpenSpec.ofChange pagerInsideSpec)

/-- ITS FALSE NEIGHBOUR: 'it returns false'. Refute it at one input. -/
def pagerInsideWrong : ChangeSpec := { name := "pagerInside", fn := fun _ => fun
  | [d1, d2, d3] => { results := [.lit (.bool false)], args := [d1, d2, d3] }
  | _ => none }
def PagerInsideWrongFalsely : Prop := pagerInsideRow.holds Tryd.pinned (OpenSpec.ofChange pagerInsideWrong)

/-- 'ordinallaw13.PagerEmpties': WHATEVER THE INPUT: true; the input reads as it did. -/
def pagerEmptiesSpec : ChangeSpec := { name := "pagerEmpties", fn := fun _ => fun
  | [d1, d2] => { results := [.lit (.bool true)], args := [d1, d2] }
  | _ => none }
def pagerEmptiesRow : OpenClaim := { program := "ytanglofabkbllaadoor", sum := "5cb5909e405fd6b0b7c1d1149197a5921d0d79cd5d34a4115d98c44b5c933d65", func := "ordinal/ordinallaw13.PagerEmpties", spec := "pagerEmpties", inPlace := ["internal/bytealg.MakeNoZero"], named := ["ordinal/checksum.remainders"], apart := false, laid := [("ordinal/checksum.remainders", laid_ordinal_checksum_remainders)] }
def PagerEmptiesSaid : Prop := pagerEmptiesRow.holds Tryd.pinned (OpenSpec.ofChange pagerEmptiesSpec)

/-- ITS FALSE NEIGHBOUR: 'it returns false'. Refute it at one input. -/
def pagerEmptiesWrong : ChangeSpec := { name := "pagerEmpties", fn := fun _ => fun
  | [d1, d2] => { results := [.lit (.bool false)], args := [d1, d2] }
  | _ => none }
def PagerEmptiesWrongFalsely : Prop := pagerEmptiesRow.holds Tryd.pinned (OpenSpec.ofChange pagerEmptiesWrong)

/-- 'ordinallaw13.PagerRoots': WHATEVER THE INPUT: true; the input reads as it did. -/
def pagerRootsSpec : ChangeSpec := { name := "pagerRoots", fn := fun _ => fun
  | [d1, d2, d3] => { results := [.lit (.bool true)], args := [d1, d2, d3] }
  | _ => none }
def pagerRootsRow : OpenClaim := { program := "ytanglofabkbllaadoor", sum := "5cb5909e405fd6b0b7c1d1149197a5921d0d79cd5d34a4115d98c44b5c933d65", func := "ordinal/ordinallaw13.PagerRoots", spec := "pagerRoots", inPlace := ["internal/bytealg.MakeNoZero"], named := ["ordinal/checksum.remainders"], apart := false, laid := [("ordinal/checksum.remainders", laid_ordinal_checksum_remainders)] }
def PagerRootsSaid : Prop := pagerRootsRow.holds Tryd.pinned (OpenSpec.ofChange pagerRootsSpec)

/-- ITS FALSE NEIGHBOUR: 'it returns false'. Refute it at one input. -/
def pagerRootsWrong : ChangeSpec := { name := "pagerRoots", fn := fun _ => fun
  | [d1, d2, d3] => { results := [.lit (.bool false)], args := [d1, d2, d3] }
  | _ => none }
def PagerRootsWrongFalsely : Prop := pagerRootsRow.holds Tryd.pinned (OpenSpec.ofChange pagerRootsWrong)

/-- 'ordinallaw13.PagerDoes': WHATEVER THE INPUT: true; the input reads as it did. -/
def pagerDoesSpec : ChangeSpec := { name := "pagerDoes", fn := fun _ => fun
  | [d1, d2, d3] => { results := [.lit (.bool true)], args := [d1, d2, d3] }
  | _ => none }
def pagerDoesRow : OpenClaim := { program := "ytanglofabkbllaadoor", sum := "5cb5909e405fd6b0b7c1d1149197a5921d0d79cd5d34a4115d98c44b5c933d65", func := "ordinal/ordinallaw13.PagerDoes", spec := "pagerDoes", inPlace := ["internal/bytealg.MakeNoZero"], named := ["ordinal/checksum.remainders"], apart := false, laid := [("ordinal/checksum.remainders", laid_ordinal_checksum_remainders)] }
def PagerDoesSaid : Prop := pagerDoesRow.holds Tryd.pinned (OpenSpec.ofChange pagerDoesSpec)

/-- ITS FALSE NEIGHBOUR: 'it returns false'. Refute it at one input. -/
def pagerDoesWrong : ChangeSpec := { name := "pagerDoes", fn := fun _ => fun
  | [d1, d2, d3] => { results := [.lit (.bool false)], args := [d1, d2, d3] }
  | _ => none }
def PagerDoesWrongFalsely : Prop := pagerDoesRow.holds Tryd.pinned (OpenSpec.ofChange pagerDoesWrong)

/-- 'ordinallaw13.PagerCuts': WHATEVER THE INPUT: true; the input reads as it did. -/
def pagerCutsSpec : ChangeSpec := { name := "pagerCuts", fn := fun _ => fun
  | [d1, d2, d3] => { results := [.lit (.bool true)], args := [d1, d2, d3] }
  | _ => none }
def pagerCutsRow : OpenClaim := { program := "ytanglofabkbllaadoor", sum := "5cb5909e405fd6b0b7c1d1149197a5921d0d79cd5d34a4115d98c44b5c933d65", func := "ordinal/ordinallaw13.PagerCuts", spec := "pagerCuts", inPlace := ["internal/bytealg.MakeNoZero"], named := ["ordinal/checksum.remainders"], apart := false, laid := [("ordinal/checksum.remainders", laid_ordinal_checksum_remainders)] }
def PagerCutsSaid : Prop := pagerCutsRow.holds Tryd.pinned (OpenSpec.ofChange pagerCutsSpec)

/-- ITS FALSE NEIGHBOUR: 'it returns false'. Refute it at one input. -/
def pagerCutsWrong : ChangeSpec := { name := "pagerCuts", fn := fun _ => fun
  | [d1, d2, d3] => { results := [.lit (.bool false)], args := [d1, d2, d3] }
  | _ => none }
def PagerCutsWrongFalsely : Prop := pagerCutsRow.holds Tryd.pinned (OpenSpec.ofChange pagerCutsWrong)

/-- 'ordinallaw13.PagerBranches': WHATEVER THE INPUT: true; the input reads as it did. -/
def pagerBranchesSpec : ChangeSpec := { name := "pagerBranches", fn := fun _ => fun
  | [d1, d2] => { results := [.lit (.bool true)], args := [d1, d2] }
  | _ => none }
def pagerBranchesRow : OpenClaim := { program := "ytanglofabkbllaadoor", sum := "5cb5909e405fd6b0b7c1d1149197a5921d0d79cd5d34a4115d98c44b5c933d65", func := "ordinal/ordinallaw13.PagerBranches", spec := "pagerBranches", inPlace := ["internal/bytealg.MakeNoZero"], named := ["ordinal/checksum.remainders"], apart := false, laid := [("ordinal/checksum.remainders", laid_ordinal_checksum_remainders)] }
def PagerBranchesSaid : Prop := pagerBranchesRow.holds Tryd.pinned (OpenSpec.ofChange pagerBranchesSpec)

/-- ITS FALSE NEIGHBOUR: 'it returns false'. Refute it at one input. -/
def pagerBranchesWrong : ChangeSpec := { name := "pagerBranches", fn := fun _ => fun
  | [d1, d2] => { results := [.lit (.bool false)], args := [d1, d2] }
  | _ => none }
def PagerBranchesWrongFalsely : Prop := pagerBranchesRow.holds Tryd.pinned (OpenSpec.ofChange pagerBranchesWrong)

/- THE SECOND FORM. 'bulk': how many values and letters a reading holds, each counted each time it is reached (what is shared counts as often as it is met; a slice's spare places count too). A statement '..UptoSaid' is the law's where the arguments, and the package variables that the reading takes, are together of bulk at most 1048576: NARROWER than '..Said'. Prove '..Said' where nothing that the law and all that it calls make is longer than what came in: it says more and counts as full. Else prove '..UptoSaid'. A law counts once. -/
mutual
def uptoBulk {H : Type} : DataW H → Nat
  | .lit (.string bytes) => bytes.length + 1
  | .lit _ => 1
  | .nil => 1
  | .ptr d => uptoBulk d + 1
  | .slice elems spare => uptoBulkAll elems + uptoBulkAll spare + 1
  | .agg parts => uptoBulkAll parts + 1
  | .iface _ d => uptoBulk d + 1
  | .map entries => uptoBulkEntries entries + 1
  | .held _ => 1
def uptoBulkAll {H : Type} : List (DataW H) → Nat
  | [] => 0
  | d :: r => uptoBulk d + uptoBulkAll r
def uptoBulkEntries {H : Type} : List (Lit × DataW H) → Nat
  | [] => 0
  | x :: r => uptoBulkEntry x + uptoBulkEntries r
def uptoBulkEntry {H : Type} : Lit × DataW H → Nat
  | (.string bytes, d) => bytes.length + uptoBulk d + 1
  | (_, d) => uptoBulk d + 1
 end
def uptoSmall : (H : Type) → List (DataW H) → Bool := fun _ ds => decide (uptoBulkAll ds ≤ 1048576)
def OpenSpec.upto (s : _root_.Go.ChangeSpec) : _root_.Go.OpenSpec := { _root_.Go.OpenSpec.ofChange s with cond := some uptoSmall }

/-- 'ordinallaw13.PagerRefuses', WHERE WHAT IT READS IS OF BULK AT MOST 1048576: true; the input reads as it did. -/
def pagerRefusesUptoRow : OpenClaim := { program := "ytanglofabkbllaadoor", sum := "5cb5909e405fd6b0b7c1d1149197a5921d0d79cd5d34a4115d98c44b5c933d65", func := "ordinal/ordinallaw13.PagerRefuses", spec := "pagerRefuses", named := ["ordinal/checksum.remainders"], apart := false, laid := [("ordinal/checksum.remainders", laid_ordinal_checksum_remainders)], narrowed := true }
def PagerRefusesUptoSaid : Prop := pagerRefusesUptoRow.holds Tryd.pinned (OpenSpec.upto pagerRefusesSpec)

/-- 'ordinallaw13.PagerInside', WHERE WHAT IT READS IS OF BULK AT MOST 1048576: true; the input reads as it did. -/
def pagerInsideUptoRow : OpenClaim := { program := "ytanglofabkbllaadoor", sum := "5cb5909e405fd6b0b7c1d1149197a5921d0d79cd5d34a4115d98c44b5c933d65", func := "ordinal/ordinallaw13.PagerInside", spec := "pagerInside", inPlace := ["internal/bytealg.MakeNoZero"], named := ["ordinal/checksum.remainders"], apart := false, laid := [("ordinal/checksum.remainders", laid_ordinal_checksum_remainders)], narrowed := true }
def PagerInsideUptoSaid : Prop := pagerInsideUptoRow.holds Tryd.pinned (OpenSpec.upto pagerInsideSpec)

/-- 'ordinallaw13.PagerEmpties', WHERE WHAT IT READS IS OF BULK AT MOST 1048576: true; the input reads as it did. -/
def pagerEmptiesUptoRow : OpenClaim := { program := "ytanglofabkbllaadoor", sum := "5cb5909e405fd6b0b7c1d1149197a5921d0d79cd5d34a4115d98c44b5c933d65", func := "ordinal/ordinallaw13.PagerEmpties", spec := "pagerEmpties", inPlace := ["internal/bytealg.MakeNoZero"], named := ["ordinal/checksum.remainders"], apart := false, laid := [("ordinal/checksum.remainders", laid_ordinal_checksum_remainders)], narrowed := true }
def PagerEmptiesUptoSaid : Prop := pagerEmptiesUptoRow.holds Tryd.pinned (OpenSpec.upto pagerEmptiesSpec)

/-- 'ordinallaw13.PagerRoots', WHERE WHAT IT READS IS OF BULK AT MOST 1048576: true; the input reads as it did. -/
def pagerRootsUptoRow : OpenClaim := { program := "ytanglofabkbllaadoor", sum := "5cb5909e405fd6b0b7c1d1149197a5921d0d79cd5d34a4115d98c44b5c933d65", func := "ordinal/ordinallaw13.PagerRoots", spec := "pagerRoots", inPlace := ["internal/bytealg.MakeNoZero"], named := ["ordinal/checksum.remainders"], apart := false, laid := [("ordinal/checksum.remainders", laid_ordinal_checksum_remainders)], narrowed := true }
def PagerRootsUptoSaid : Prop := pagerRootsUptoRow.holds Tryd.pinned (OpenSpec.upto pagerRootsSpec)

/-- 'ordinallaw13.PagerDoes', WHERE WHAT IT READS IS OF BULK AT MOST 1048576: true; the input reads as it did. -/
def pagerDoesUptoRow : OpenClaim := { program := "ytanglofabkbllaadoor", sum := "5cb5909e405fd6b0b7c1d1149197a5921d0d79cd5d34a4115d98c44b5c933d65", func := "ordinal/ordinallaw13.PagerDoes", spec := "pagerDoes", inPlace := ["internal/bytealg.MakeNoZero"], named := ["ordinal/checksum.remainders"], apart := false, laid := [("ordinal/checksum.remainders", laid_ordinal_checksum_remainders)], narrowed := true }
def PagerDoesUptoSaid : Prop := pagerDoesUptoRow.holds Tryd.pinned (OpenSpec.upto pagerDoesSpec)

/-- 'ordinallaw13.PagerCuts', WHERE WHAT IT READS IS OF BULK AT MOST 1048576: true; the input reads as it did. -/
def pagerCutsUptoRow : OpenClaim := { program := "ytanglofabkbllaadoor", sum := "5cb5909e405fd6b0b7c1d1149197a5921d0d79cd5d34a4115d98c44b5c933d65", func := "ordinal/ordinallaw13.PagerCuts", spec := "pagerCuts", inPlace := ["internal/bytealg.MakeNoZero"], named := ["ordinal/checksum.remainders"], apart := false, laid := [("ordinal/checksum.remainders", laid_ordinal_checksum_remainders)], narrowed := true }
def PagerCutsUptoSaid : Prop := pagerCutsUptoRow.holds Tryd.pinned (OpenSpec.upto pagerCutsSpec)

/-- 'ordinallaw13.PagerBranches', WHERE WHAT IT READS IS OF BULK AT MOST 1048576: true; the input reads as it did. -/
def pagerBranchesUptoRow : OpenClaim := { program := "ytanglofabkbllaadoor", sum := "5cb5909e405fd6b0b7c1d1149197a5921d0d79cd5d34a4115d98c44b5c933d65", func := "ordinal/ordinallaw13.PagerBranches", spec := "pagerBranches", inPlace := ["internal/bytealg.MakeNoZero"], named := ["ordinal/checksum.remainders"], apart := false, laid := [("ordinal/checksum.remainders", laid_ordinal_checksum_remainders)], narrowed := true }
def PagerBranchesUptoSaid : Prop := pagerBranchesUptoRow.holds Tryd.pinned (OpenSpec.upto pagerBranchesSpec)

end Rows
end Go.Proofs.YtanglofabkbllaaDoor
