/-
  NARROWER THAN 'FOR EVERY INPUT', by the rows' own cells (each row's printed sentence says how): WalOpens: laid · WalBranches: laid · WalRefuses: laid · WalTorn: laid · WalSurvives: laid · WalPlays: laid.
  DERIVED. THE GIVEN ROWS OF THIS SEAT. 6 by the template 'for every input the law returns true; each argument reads behind the call as it read before'; 0 by the template 'total and deterministic' (their statements: YtlokfndonjldpaaDoorTotals.lean).
  GIVEN WITH THE SEED: the statements are not yours to turn. If you find one false, say at which input.
  Laid BY PROGRAM, IN A SANDBOX (cutbox-rows.mjs): the forced cells as the released guide's own fill.sh prints them over the translation 25e48b7e4206f395… (all of the seat's roots in one cut). By AI agents, Wed Nov 11 2026. No macro, syntax, notation, axiom, sorry.
-/
import Derived.Test.YtlokfndonjldpaaDoorChecked
import GoSem.Claim
import GoSem.ClaimJoined
import GoSem.ClaimMapViews
import Derived.JoinedTies
import Derived.KernelRfl
namespace Go.Proofs.YtlokfndonjldpaaDoor
/- THE CELL 'sum', in the pinned program and in every row, IS THE sha256 OF THE DUMP (.gsa) THAT YtlokfndonjldpaaDoorProg.lean LOADS. Nothing in Lean hashes anything: it is a label: what it is worth is what the hold of that sum in a sandbox is worth. -/
noncomputable def Tryd.pinned : Pinned := { name := "ytlokfndonjldpaadoor", sum := "25e48b7e4206f39504be25fc7118620c8bdbd338d335823ae19adaaff9e0d09c", checked := Tryd.checked }
namespace Rows
def none {H : Type} : Left H := { results := [], args := [] }

/- WHAT THE LISTED PACKAGE-LEVEL VARIABLES READ AS WHEN THE CALL BEGINS. Each datum BY PROGRAM (the guide's laid-datum.mjs) off the statement by which the dump's own 'gosem.cut.vars' lays the variable. In a bare row this is a premise. The card (YtlokfndonjldpaaDoorCards.lean) ties it to the program's text. -/
def laid_ordinal_checksum_remainders {H : Type} : DataW H := .agg [.lit (.int .u32 0), .lit (.int .u32 274646895), .lit (.int .u32 549293790), .lit (.int .u32 820201905), .lit (.int .u32 1098587580), .lit (.int .u32 1361435347), .lit (.int .u32 1640403810), .lit (.int .u32 1905808397), .lit (.int .u32 2197175160), .lit (.int .u32 2460548119), .lit (.int .u32 2722870694), .lit (.int .u32 2987750089), .lit (.int .u32 3280807620), .lit (.int .u32 3553878443), .lit (.int .u32 3811616794), .lit (.int .u32 4084100981)]

/-- 'ordinallaw12.WalOpens': WHATEVER THE INPUT: true; the input reads as it did. -/
def walOpensSpec : ChangeSpec := { name := "walOpens", fn := fun _ => fun
  | [d1, d2, d3] => { results := [.lit (.bool true)], args := [d1, d2, d3] }
  | _ => none }
def walOpensRow : OpenClaim := { program := "ytlokfndonjldpaadoor", sum := "25e48b7e4206f39504be25fc7118620c8bdbd338d335823ae19adaaff9e0d09c", func := "ordinal/ordinallaw12.WalOpens", spec := "walOpens", named := ["ordinal/checksum.remainders"], apart := false, laid := [("ordinal/checksum.remainders", laid_ordinal_checksum_remainders)] }
def WalOpensSaid : Prop := walOpensRow.holds Tryd.pinned (OpenSpec.ofChange walOpensSpec)

/-- ITS FALSE NEIGHBOUR: 'it returns false'. Refute it at one input. -/
def walOpensWrong : ChangeSpec := { name := "walOpens", fn := fun _ => fun
  | [d1, d2, d3] => { results := [.lit (.bool false)], args := [d1, d2, d3] }
  | _ => none }
def WalOpensWrongFalsely : Prop := walOpensRow.holds Tryd.pinned (OpenSpec.ofChange walOpensWrong)

/-- 'ordinallaw12.WalBranches': WHATEVER THE INPUT: true; the input reads as it did. -/
def walBranchesSpec : ChangeSpec := { name := "walBranches", fn := fun _ => fun
  | [d1, d2, d3] => { results := [.lit (.bool true)], args := [d1, d2, d3] }
  | _ => none }
def walBranchesRow : OpenClaim := { program := "ytlokfndonjldpaadoor", sum := "25e48b7e4206f39504be25fc7118620c8bdbd338d335823ae19adaaff9e0d09c", func := "ordinal/ordinallaw12.WalBranches", spec := "walBranches", named := ["ordinal/checksum.remainders"], apart := false, laid := [("ordinal/checksum.remainders", laid_ordinal_checksum_remainders)] }
def WalBranchesSaid : Prop := walBranchesRow.holds Tryd.pinned (OpenSpec.ofChange walBranchesSpec)

/-- ITS FALSE NEIGHBOUR: 'it returns false'. Refute it at one input. -/
def walBranchesWrong : ChangeSpec := { name := "walBranches", fn := fun _ => fun
  | [d1, d2, d3] => { results := [.lit (.bool false)], args := [d1, d2, d3] }
  | _ => none }
def WalBranchesWrongFalsely : Prop := walBranchesRow.holds Tryd.pinned (OpenSpec.ofChange walBranchesWrong)

/-- 'ordinallaw12.WalRefuses': WHATEVER THE INPUT: true; the input reads as it did. -/
def walRefusesSpec : ChangeSpec := { name := "walRefuses", fn := fun _ => fun
  | [d1, d2, d3] => { results := [.lit (.bool true)], args := [d1, d2, d3] }
  | _ => none }
def walRefusesRow : OpenClaim := { program := "ytlokfndonjldpaadoor", sum := "25e48b7e4206f39504be25fc7118620c8bdbd338d335823ae19adaaff9e0d09c", func := "ordinal/ordinallaw12.WalRefuses", spec := "walRefuses", named := ["ordinal/checksum.remainders"], apart := false, laid := [("ordinal/checksum.remainders", laid_ordinal_checksum_remainders)] }
def WalRefusesSaid : Prop := walRefusesRow.holds Tryd.pinned (OpenSpec.ofChange walRefusesSpec)

/-- ITS FALSE NEIGHBOUR: 'it returns false'. Refute it at one input. -/
def walRefusesWrong : ChangeSpec := { name := "walRefuses", fn := fun _ => fun
  | [d1, d2, d3] => { results := [.lit (.bool false)], args := [d1, d2, d3] }
  | _ => none }
def WalRefusesWrongFalsely : Prop := walRefusesRow.holds Tryd.pinned (OpenSpec.ofChange walRefusesWrong)

/-- 'ordinallaw12.WalTorn': WHATEVER THE INPUT: true; the input reads as it did. -/
def walTornSpec : ChangeSpec := { name := "walTorn", fn := fun _ => fun
  | [d1, d2, d3] => { results := [.lit (.bool true)], args := [d1, d2, d3] }
  | _ => none }
def walTornRow : OpenClaim := { program := "ytlokfndonjldpaadoor", sum := "25e48b7e4206f39504be25fc7118620c8bdbd338d335823ae19adaaff9e0d09c", func := "ordinal/ordinallaw12.WalTorn", spec := "walTorn", named := ["ordinal/checksum.remainders"], apart := false, laid := [("ordinal/checksum.remainders", laid_ordinal_checksum_remainders)] }
def WalTornSaid : Prop := walTornRow.holds Tryd.pinned (OpenSpec.ofChange walTornSpec)

/-- ITS FALSE NEIGHBOUR: 'it returns false'. Refute it at one input. -/
def walTornWrong : ChangeSpec := { name := "walTorn", fn := fun _ => fun
  | [d1, d2, d3] => { results := [.lit (.bool false)], args := [d1, d2, d3] }
  | _ => none }
def WalTornWrongFalsely : Prop := walTornRow.holds Tryd.pinned (OpenSpec.ofChange walTornWrong)

/-- 'ordinallaw12.WalSurvives': WHATEVER THE INPUT: true; the input reads as it did. -/
def walSurvivesSpec : ChangeSpec := { name := "walSurvives", fn := fun _ => fun
  | [d1, d2] => { results := [.lit (.bool true)], args := [d1, d2] }
  | _ => none }
def walSurvivesRow : OpenClaim := { program := "ytlokfndonjldpaadoor", sum := "25e48b7e4206f39504be25fc7118620c8bdbd338d335823ae19adaaff9e0d09c", func := "ordinal/ordinallaw12.WalSurvives", spec := "walSurvives", named := ["ordinal/checksum.remainders"], apart := false, laid := [("ordinal/checksum.remainders", laid_ordinal_checksum_remainders)] }
def WalSurvivesSaid : Prop := walSurvivesRow.holds Tryd.pinned (OpenSpec.ofChange walSurvivesSpec)

/-- ITS FALSE NEIGHBOUR: 'it returns false'. Refute it at one input. -/
def walSurvivesWrong : ChangeSpec := { name := "walSurvives", fn := fun _ => fun
  | [d1, d2] => { results := [.lit (.bool false)], args := [d1, d2] }
  | _ => none }
def WalSurvivesWrongFalsely : Prop := walSurvivesRow.holds Tryd.pinned (OpenSpec.ofChange walSurvivesWrong)

/-- 'ordinallaw12.WalPlays': WHATEVER THE INPUT: true; the input reads as it did. -/
def walPlaysSpec : ChangeSpec := { name := "walPlays", fn := fun _ => fun
  | [d1, d2] => { results := [.lit (.bool true)], args := [d1, d2] }
  | _ => none }
def walPlaysRow : OpenClaim := { program := "ytlokfndonjldpaadoor", sum := "25e48b7e4206f39504be25fc7118620c8bdbd338d335823ae19adaaff9e0d09c", func := "ordinal/ordinallaw12.WalPlays", spec := "walPlays", named := ["ordinal/checksum.remainders"], apart := false, laid := [("ordinal/checksum.remainders", laid_ordinal_checksum_remainders)] }
def WalPlaysSaid : Prop := walPlaysRow.holds Tryd.pinned (OpenSpec.ofChange walPlaysSpec)

/-- ITS FALSE NEIGHBOUR: 'it returns false'. Refute it at one input. -/
def walPlaysWrong : ChangeSpec := { name := "walPlays", fn := fun _ => fun
  | [d1, d2] => { results := [.lit (.bool false)], args := [d1, d2] }
  | _ => none }
def WalPlaysWrongFalsely : Prop := walPlaysRow.holds Tryd.pinned (OpenSpec.ofChange walPlaysWrong)

/- THE SECOND FORM. 'bulk': how many values and letters a reading holds, each counted each time it is reached (what is shared counts as often as it is met; a slice's spare places count too). A statement '..UptoSaid' is the law's where the arguments, and the package variables that the reading takes, are together of bulk at most 1048576: NARROWER than '..Said'. Prove '..Said' where nothing that the law and all that it calls make is longer than what came in: it says more and counts as full. Else prove '..UptoSaid'. A law counts once. -/
mutual
def uptoBulk {H : Type} : DataW H → Nat
  | .lit (.string bytes) => bytes.length + 1
  | .lit _ => 1
  | .nil => 1
  | .ptr d => uptoBulk d + 1
  | .slice elems spare => uptoBulkAll elems + uptoBulkAll spare + 1
  | .agg parts => uptoBulkAll parts + 1
  | .iface _ d => uptoBulk d + 1
  | .map entries => uptoBulkEntries entries + 1
  | .held _ => 1
def uptoBulkAll {H : Type} : List (DataW H) → Nat
  | [] => 0
  | d :: r => uptoBulk d + uptoBulkAll r
def uptoBulkEntries {H : Type} : List (Lit × DataW H) → Nat
  | [] => 0
  | x :: r => uptoBulkEntry x + uptoBulkEntries r
def uptoBulkEntry {H : Type} : Lit × DataW H → Nat
  | (.string bytes, d) => bytes.length + uptoBulk d + 1
  | (_, d) => uptoBulk d + 1
 end
def uptoSmall : (H : Type) → List (DataW H) → Bool := fun _ ds => decide (uptoBulkAll ds ≤ 1048576)
def OpenSpec.upto (s : _root_.Go.ChangeSpec) : _root_.Go.OpenSpec := { _root_.Go.OpenSpec.ofChange s with cond := some uptoSmall }

/-- 'ordinallaw12.WalOpens', WHERE WHAT IT READS IS OF BULK AT MOST 1048576: true; the input reads as it did. -/
def walOpensUptoRow : OpenClaim := { program := "ytlokfndonjldpaadoor", sum := "25e48b7e4206f39504be25fc7118620c8bdbd338d335823ae19adaaff9e0d09c", func := "ordinal/ordinallaw12.WalOpens", spec := "walOpens", named := ["ordinal/checksum.remainders"], apart := false, laid := [("ordinal/checksum.remainders", laid_ordinal_checksum_remainders)], narrowed := true }
def WalOpensUptoSaid : Prop := walOpensUptoRow.holds Tryd.pinned (OpenSpec.upto walOpensSpec)

/-- 'ordinallaw12.WalBranches', WHERE WHAT IT READS IS OF BULK AT MOST 1048576: true; the input reads as it did. -/
def walBranchesUptoRow : OpenClaim := { program := "ytlokfndonjldpaadoor", sum := "25e48b7e4206f39504be25fc7118620c8bdbd338d335823ae19adaaff9e0d09c", func := "ordinal/ordinallaw12.WalBranches", spec := "walBranches", named := ["ordinal/checksum.remainders"], apart := false, laid := [("ordinal/checksum.remainders", laid_ordinal_checksum_remainders)], narrowed := true }
def WalBranchesUptoSaid : Prop := walBranchesUptoRow.holds Tryd.pinned (OpenSpec.upto walBranchesSpec)

/-- 'ordinallaw12.WalRefuses', WHERE WHAT IT READS IS OF BULK AT MOST 1048576: true; the input reads as it did. -/
def walRefusesUptoRow : OpenClaim := { program := "ytlokfndonjldpaadoor", sum := "25e48b7e4206f39504be25fc7118620c8bdbd338d335823ae19adaaff9e0d09c", func := "ordinal/ordinallaw12.WalRefuses", spec := "walRefuses", named := ["ordinal/checksum.remainders"], apart := false, laid := [("ordinal/checksum.remainders", laid_ordinal_checksum_remainders)], narrowed := true }
def WalRefusesUptoSaid : Prop := walRefusesUptoRow.holds Tryd.pinned (OpenSpec.upto walRefusesSpec)

/-- 'ordinallaw12.WalTorn', WHERE WHAT IT READS IS OF BULK AT MOST 1048576: true; the input reads as it did. -/
def walTornUptoRow : OpenClaim := { program := "ytlokfndonjldpaadoor", sum := "25e48b7e4206f39504be25fc7118620c8bdbd338d335823ae19adaaff9e0d09c", func := "ordinal/ordinallaw12.WalTorn", spec := "walTorn", named := ["ordinal/checksum.remainders"], apart := false, laid := [("ordinal/checksum.remainders", laid_ordinal_checksum_remainders)], narrowed := true }
def WalTornUptoSaid : Prop := walTornUptoRow.holds Tryd.pinned (OpenSpec.upto walTornSpec)

/-- 'ordinallaw12.WalSurvives', WHERE WHAT IT READS IS OF BULK AT MOST 1048576: true; the input reads as it did. -/
def walSurvivesUptoRow : OpenClaim := { program := "ytlokfndonjldpaadoor", sum := "25e48b7e4206f39504be25fc7118620c8bdbd338d335823ae19adaaff9e0d09c", func := "ordinal/ordinallaw12.WalSurvives", spec := "walSurvives", named := ["ordinal/checksum.remainders"], apart := false, laid := [("ordinal/checksum.remainders", laid_ordinal_checksum_remainders)], narrowed := true }
def WalSurvivesUptoSaid : Prop := walSurvivesUptoRow.holds Tryd.pinned (OpenSpec.upto walSurvivesSpec)

/-- 'ordinallaw12.WalPlays', WHERE WHAT IT READS IS OF BULK AT MOST 1048576: true; the input reads as it did. -/
def walPlaysUptoRow : OpenClaim := { program := "ytlokfndonjldpaadoor", sum := "25e48b7e4206f39504be25fc7118620c8bdbd338d335823ae19adaaff9e0d09c", func := "ordinal/ordinallaw12.WalPlays", spec := "walPlays", named := ["ordinal/checksum.remainders"], apart := false, laid := [("ordinal/checksum.remainders", laid_ordinal_checksum_remainders)], narrowed := true }
def WalPlaysUptoSaid : Prop := walPlaysUptoRow.holds Tryd.pinned (OpenSpec.upto walPlaysSpec)

end Rows
end Go.Proofs.YtlokfndonjldpaaDoor
