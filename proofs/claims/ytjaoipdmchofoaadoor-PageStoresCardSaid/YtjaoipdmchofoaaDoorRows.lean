/-
  NARROWER THAN 'FOR EVERY INPUT', by the rows' own cells (each row's printed sentence says how): PageEncodes: laid · PageDecodes: laid · PageBytes: laid · PageDetects: laid · PageApart: laid · PageCrashes: laid · PageStores: laid.
  DERIVED. THE GIVEN ROWS OF THIS SEAT. 7 by the template 'for every input the law returns true; each argument reads behind the call as it read before'; 0 by the template 'total and deterministic' (their statements: YtjaoipdmchofoaaDoorTotals.lean).
  GIVEN WITH THE SEED: the statements are not yours to turn. If you find one false, say at which input.
  Laid BY PROGRAM, IN A SANDBOX (cutbox-rows.mjs): the forced cells as the released guide's own fill.sh prints them over the translation cab2e260950ac2e9… (all of the seat's roots in one cut). By AI agents, Wed Nov 11 2026. No macro, syntax, notation, axiom, sorry.
-/
import Derived.Test.YtjaoipdmchofoaaDoorChecked
import GoSem.Claim
import GoSem.ClaimJoined
import GoSem.ClaimMapViews
import Derived.JoinedTies
import Derived.KernelRfl
namespace Go.Proofs.YtjaoipdmchofoaaDoor
/- THE CELL 'sum', in the pinned program and in every row, IS THE sha256 OF THE DUMP (.gsa) THAT YtjaoipdmchofoaaDoorProg.lean LOADS. Nothing in Lean hashes anything: it is a label: what it is worth is what the hold of that sum in a sandbox is worth. -/
noncomputable def Tryd.pinned : Pinned := { name := "ytjaoipdmchofoaadoor", sum := "cab2e260950ac2e90027fa2045e4b13608748d860ec2e53cfc36a92ddcc9ec3d", checked := Tryd.checked }
namespace Rows
def none {H : Type} : Left H := { results := [], args := [] }

/- WHAT THE LISTED PACKAGE-LEVEL VARIABLES READ AS WHEN THE CALL BEGINS. Each datum BY PROGRAM (the guide's laid-datum.mjs) off the statement by which the dump's own 'gosem.cut.vars' lays the variable. In a bare row this is a premise. The card (YtjaoipdmchofoaaDoorCards.lean) ties it to the program's text. -/
def laid_ordinal_checksum_remainders {H : Type} : DataW H := .agg [.lit (.int .u32 0), .lit (.int .u32 274646895), .lit (.int .u32 549293790), .lit (.int .u32 820201905), .lit (.int .u32 1098587580), .lit (.int .u32 1361435347), .lit (.int .u32 1640403810), .lit (.int .u32 1905808397), .lit (.int .u32 2197175160), .lit (.int .u32 2460548119), .lit (.int .u32 2722870694), .lit (.int .u32 2987750089), .lit (.int .u32 3280807620), .lit (.int .u32 3553878443), .lit (.int .u32 3811616794), .lit (.int .u32 4084100981)]

/-- 'ordinallaw11.PageEncodes': WHATEVER THE INPUT: true; the input reads as it did. -/
def pageEncodesSpec : ChangeSpec := { name := "pageEncodes", fn := fun _ => fun
  | [d] => { results := [.lit (.bool true)], args := [d] }
  | _ => none }
def pageEncodesRow : OpenClaim := { program := "ytjaoipdmchofoaadoor", sum := "cab2e260950ac2e90027fa2045e4b13608748d860ec2e53cfc36a92ddcc9ec3d", func := "ordinal/ordinallaw11.PageEncodes", spec := "pageEncodes", named := ["ordinal/checksum.remainders"], apart := false, laid := [("ordinal/checksum.remainders", laid_ordinal_checksum_remainders)] }
def PageEncodesSaid : Prop := pageEncodesRow.holds Tryd.pinned (OpenSpec.ofChange pageEncodesSpec)

/-- ITS FALSE NEIGHBOUR: 'it returns false'. Refute it at one input. -/
def pageEncodesWrong : ChangeSpec := { name := "pageEncodes", fn := fun _ => fun
  | [d] => { results := [.lit (.bool false)], args := [d] }
  | _ => none }
def PageEncodesWrongFalsely : Prop := pageEncodesRow.holds Tryd.pinned (OpenSpec.ofChange pageEncodesWrong)

/-- 'ordinallaw11.PageDecodes': WHATEVER THE INPUT: true; the input reads as it did. -/
def pageDecodesSpec : ChangeSpec := { name := "pageDecodes", fn := fun _ => fun
  | [d] => { results := [.lit (.bool true)], args := [d] }
  | _ => none }
def pageDecodesRow : OpenClaim := { program := "ytjaoipdmchofoaadoor", sum := "cab2e260950ac2e90027fa2045e4b13608748d860ec2e53cfc36a92ddcc9ec3d", func := "ordinal/ordinallaw11.PageDecodes", spec := "pageDecodes", named := ["ordinal/checksum.remainders"], apart := false, laid := [("ordinal/checksum.remainders", laid_ordinal_checksum_remainders)] }
def PageDecodesSaid : Prop := pageDecodesRow.holds Tryd.pinned (OpenSpec.ofChange pageDecodesSpec)

/-- ITS FALSE NEIGHBOUR: 'it returns false'. Refute it at one input. -/
def pageDecodesWrong : ChangeSpec := { name := "pageDecodes", fn := fun _ => fun
  | [d] => { results := [.lit (.bool false)], args := [d] }
  | _ => none }
def PageDecodesWrongFalsely : Prop := pageDecodesRow.holds Tryd.pinned (OpenSpec.ofChange pageDecodesWrong)

/-- 'ordinallaw11.PageBytes': WHATEVER THE INPUT: true; the input reads as it did. -/
def pageBytesSpec : ChangeSpec := { name := "pageBytes", fn := fun _ => fun
  | [d] => { results := [.lit (.bool true)], args := [d] }
  | _ => none }
def pageBytesRow : OpenClaim := { program := "ytjaoipdmchofoaadoor", sum := "cab2e260950ac2e90027fa2045e4b13608748d860ec2e53cfc36a92ddcc9ec3d", func := "ordinal/ordinallaw11.PageBytes", spec := "pageBytes", named := ["ordinal/checksum.remainders"], apart := false, laid := [("ordinal/checksum.remainders", laid_ordinal_checksum_remainders)] }
def PageBytesSaid : Prop := pageBytesRow.holds Tryd.pinned (OpenSpec.ofChange pageBytesSpec)

/-- ITS FALSE NEIGHBOUR: 'it returns false'. Refute it at one input. -/
def pageBytesWrong : ChangeSpec := { name := "pageBytes", fn := fun _ => fun
  | [d] => { results := [.lit (.bool false)], args := [d] }
  | _ => none }
def PageBytesWrongFalsely : Prop := pageBytesRow.holds Tryd.pinned (OpenSpec.ofChange pageBytesWrong)

/-- 'ordinallaw11.PageDetects': WHATEVER THE INPUT: true; the input reads as it did. -/
def pageDetectsSpec : ChangeSpec := { name := "pageDetects", fn := fun _ => fun
  | [d1, d2, d3] => { results := [.lit (.bool true)], args := [d1, d2, d3] }
  | _ => none }
def pageDetectsRow : OpenClaim := { program := "ytjaoipdmchofoaadoor", sum := "cab2e260950ac2e90027fa2045e4b13608748d860ec2e53cfc36a92ddcc9ec3d", func := "ordinal/ordinallaw11.PageDetects", spec := "pageDetects", named := ["ordinal/checksum.remainders"], apart := false, laid := [("ordinal/checksum.remainders", laid_ordinal_checksum_remainders)] }
def PageDetectsSaid : Prop := pageDetectsRow.holds Tryd.pinned (OpenSpec.ofChange pageDetectsSpec)

/-- ITS FALSE NEIGHBOUR: 'it returns false'. Refute it at one input. -/
def pageDetectsWrong : ChangeSpec := { name := "pageDetects", fn := fun _ => fun
  | [d1, d2, d3] => { results := [.lit (.bool false)], args := [d1, d2, d3] }
  | _ => none }
def PageDetectsWrongFalsely : Prop := pageDetectsRow.holds Tryd.pinned (OpenSpec.ofChange pageDetectsWrong)

/-- 'ordinallaw11.PageApart': WHATEVER THE INPUT: true; the input reads as it did. -/
def pageApartSpec : ChangeSpec := { name := "pageApart", fn := fun _ => fun
  | [d1, d2, d3] => { results := [.lit (.bool true)], args := [d1, d2, d3] }
  | _ => none }
def pageApartRow : OpenClaim := { program := "ytjaoipdmchofoaadoor", sum := "cab2e260950ac2e90027fa2045e4b13608748d860ec2e53cfc36a92ddcc9ec3d", func := "ordinal/ordinallaw11.PageApart", spec := "pageApart", named := ["ordinal/checksum.remainders"], apart := false, laid := [("ordinal/checksum.remainders", laid_ordinal_checksum_remainders)] }
def PageApartSaid : Prop := pageApartRow.holds Tryd.pinned (OpenSpec.ofChange pageApartSpec)

/-- ITS FALSE NEIGHBOUR: 'it returns false'. Refute it at one input. -/
def pageApartWrong : ChangeSpec := { name := "pageApart", fn := fun _ => fun
  | [d1, d2, d3] => { results := [.lit (.bool false)], args := [d1, d2, d3] }
  | _ => none }
def PageApartWrongFalsely : Prop := pageApartRow.holds Tryd.pinned (OpenSpec.ofChange pageApartWrong)

/-- 'ordinallaw11.PageCrashes': WHATEVER THE INPUT: true; the input reads as it did. -/
def pageCrashesSpec : ChangeSpec := { name := "pageCrashes", fn := fun _ => fun
  | [d1, d2] => { results := [.lit (.bool true)], args := [d1, d2] }
  | _ => none }
def pageCrashesRow : OpenClaim := { program := "ytjaoipdmchofoaadoor", sum := "cab2e260950ac2e90027fa2045e4b13608748d860ec2e53cfc36a92ddcc9ec3d", func := "ordinal/ordinallaw11.PageCrashes", spec := "pageCrashes", named := ["ordinal/checksum.remainders"], apart := false, laid := [("ordinal/checksum.remainders", laid_ordinal_checksum_remainders)] }
def PageCrashesSaid : Prop := pageCrashesRow.holds Tryd.pinned (OpenSpec.ofChange pageCrashesSpec)

/-- ITS FALSE NEIGHBOUR: 'it returns false'. Refute it at one input. -/
def pageCrashesWrong : ChangeSpec := { name := "pageCrashes", fn := fun _ => fun
  | [d1, d2] => { results := [.lit (.bool false)], args := [d1, d2] }
  | _ => none }
def PageCrashesWrongFalsely : Prop := pageCrashesRow.holds Tryd.pinned (OpenSpec.ofChange pageCrashesWrong)

/-- 'ordinallaw11.PageStores': WHATEVER THE INPUT: true; the input reads as it did. -/
def pageStoresSpec : ChangeSpec := { name := "pageStores", fn := fun _ => fun
  | [d] => { results := [.lit (.bool true)], args := [d] }
  | _ => none }
def pageStoresRow : OpenClaim := { program := "ytjaoipdmchofoaadoor", sum := "cab2e260950ac2e90027fa2045e4b13608748d860ec2e53cfc36a92ddcc9ec3d", func := "ordinal/ordinallaw11.PageStores", spec := "pageStores", named := ["ordinal/checksum.remainders"], apart := false, laid := [("ordinal/checksum.remainders", laid_ordinal_checksum_remainders)] }
def PageStoresSaid : Prop := pageStoresRow.holds Tryd.pinned (OpenSpec.ofChange pageStoresSpec)

/-- ITS FALSE NEIGHBOUR: 'it returns false'. Refute it at one input. -/
def pageStoresWrong : ChangeSpec := { name := "pageStores", fn := fun _ => fun
  | [d] => { results := [.lit (.bool false)], args := [d] }
  | _ => none }
def PageStoresWrongFalsely : Prop := pageStoresRow.holds Tryd.pinned (OpenSpec.ofChange pageStoresWrong)

/- THE SECOND FORM. 'bulk': how many values and letters a reading holds, each counted each time it is reached (what is shared counts as often as it is met; a slice's spare places count too). A statement '..UptoSaid' is the law's where the arguments, and the package variables that the reading takes, are together of bulk at most 1048576: NARROWER than '..Said'. Prove '..Said' where nothing that the law and all that it calls make is longer than what came in: it says more and counts as full. Else prove '..UptoSaid'. A law counts once. -/
mutual
def uptoBulk {H : Type} : DataW H → Nat
  | .lit (.string bytes) => bytes.length + 1
  | .lit _ => 1
  | .nil => 1
  | .ptr d => uptoBulk d + 1
  | .slice elems spare => uptoBulkAll elems + uptoBulkAll spare + 1
  | .agg parts => uptoBulkAll parts + 1
  | .iface _ d => uptoBulk d + 1
  | .map entries => uptoBulkEntries entries + 1
  | .held _ => 1
def uptoBulkAll {H : Type} : List (DataW H) → Nat
  | [] => 0
  | d :: r => uptoBulk d + uptoBulkAll r
def uptoBulkEntries {H : Type} : List (Lit × DataW H) → Nat
  | [] => 0
  | x :: r => uptoBulkEntry x + uptoBulkEntries r
def uptoBulkEntry {H : Type} : Lit × DataW H → Nat
  | (.string bytes, d) => bytes.length + uptoBulk d + 1
  | (_, d) => uptoBulk d + 1
 end
def uptoSmall : (H : Type) → List (DataW H) → Bool := fun _ ds => decide (uptoBulkAll ds ≤ 1048576)
def OpenSpec.upto (s : _root_.Go.ChangeSpec) : _root_.Go.OpenSpec := { _root_.Go.OpenSpec.ofChange s with cond := some uptoSmall }

/-- 'ordinallaw11.PageEncodes', WHERE WHAT IT READS IS OF BULK AT MOST 1048576: true; the input reads as it did. -/
def pageEncodesUptoRow : OpenClaim := { program := "ytjaoipdmchofoaadoor", sum := "cab2e260950ac2e90027fa2045e4b13608748d860ec2e53cfc36a92ddcc9ec3d", func := "ordinal/ordinallaw11.PageEncodes", spec := "pageEncodes", named := ["ordinal/checksum.remainders"], apart := false, laid := [("ordinal/checksum.remainders", laid_ordinal_checksum_remainders)], narrowed := true }
def PageEncodesUptoSaid : Prop := pageEncodesUptoRow.holds Tryd.pinned (OpenSpec.upto pageEncodesSpec)

/-- 'ordinallaw11.PageDecodes', WHERE WHAT IT READS IS OF BULK AT MOST 1048576: true; the input reads as it did. -/
def pageDecodesUptoRow : OpenClaim := { program := "ytjaoipdmchofoaadoor", sum := "cab2e260950ac2e90027fa2045e4b13608748d860ec2e53cfc36a92ddcc9ec3d", func := "ordinal/ordinallaw11.PageDecodes", spec := "pageDecodes", named := ["ordinal/checksum.remainders"], apart := false, laid := [("ordinal/checksum.remainders", laid_ordinal_checksum_remainders)], narrowed := true }
def PageDecodesUptoSaid : Prop := pageDecodesUptoRow.holds Tryd.pinned (OpenSpec.upto pageDecodesSpec)

/-- 'ordinallaw11.PageBytes', WHERE WHAT IT READS IS OF BULK AT MOST 1048576: true; the input reads as it did. -/
def pageBytesUptoRow : OpenClaim := { program := "ytjaoipdmchofoaadoor", sum := "cab2e260950ac2e90027fa2045e4b13608748d860ec2e53cfc36a92ddcc9ec3d", func := "ordinal/ordinallaw11.PageBytes", spec := "pageBytes", named := ["ordinal/checksum.remainders"], apart := false, laid := [("ordinal/checksum.remainders", laid_ordinal_checksum_remainders)], narrowed := true }
def PageBytesUptoSaid : Prop := pageBytesUptoRow.holds Tryd.pinned (OpenSpec.upto pageBytesSpec)

/-- 'ordinallaw11.PageDetects', WHERE WHAT IT READS IS OF BULK AT MOST 1048576: true; the input reads as it did. -/
def pageDetectsUptoRow : OpenClaim := { program := "ytjaoipdmchofoaadoor", sum := "cab2e260950ac2e90027fa2045e4b13608748d860ec2e53cfc36a92ddcc9ec3d", func := "ordinal/ordinallaw11.PageDetects", spec := "pageDetects", named := ["ordinal/checksum.remainders"], apart := false, laid := [("ordinal/checksum.remainders", laid_ordinal_checksum_remainders)], narrowed := true }
def PageDetectsUptoSaid : Prop := pageDetectsUptoRow.holds Tryd.pinned (OpenSpec.upto pageDetectsSpec)

/-- 'ordinallaw11.PageApart', WHERE WHAT IT READS IS OF BULK AT MOST 1048576: true; the input reads as it did. -/
def pageApartUptoRow : OpenClaim := { program := "ytjaoipdmchofoaadoor", sum := "cab2e260950ac2e90027fa2045e4b13608748d860ec2e53cfc36a92ddcc9ec3d", func := "ordinal/ordinallaw11.PageApart", spec := "pageApart", named := ["ordinal/checksum.remainders"], apart := false, laid := [("ordinal/checksum.remainders", laid_ordinal_checksum_remainders)], narrowed := true }
def PageApartUptoSaid : Prop := pageApartUptoRow.holds Tryd.pinned (OpenSpec.upto pageApartSpec)

/-- 'ordinallaw11.PageCrashes', WHERE WHAT IT READS IS OF BULK AT MOST 1048576: true; the input reads as it did. -/
def pageCrashesUptoRow : OpenClaim := { program := "ytjaoipdmchofoaadoor", sum := "cab2e260950ac2e90027fa2045e4b13608748d860ec2e53cfc36a92ddcc9ec3d", func := "ordinal/ordinallaw11.PageCrashes", spec := "pageCrashes", named := ["ordinal/checksum.remainders"], apart := false, laid := [("ordinal/checksum.remainders", laid_ordinal_checksum_remainders)], narrowed := true }
def PageCrashesUptoSaid : Prop := pageCrashesUptoRow.holds Tryd.pinned (OpenSpec.upto pageCrashesSpec)

/-- 'ordinallaw11.PageStores', WHERE WHAT IT READS IS OF BULK AT MOST 1048576: true; the input reads as it did. -/
def pageStoresUptoRow : OpenClaim := { program := "ytjaoipdmchofoaadoor", sum := "cab2e260950ac2e90027fa2045e4b13608748d860ec2e53cfc36a92ddcc9ec3d", func := "ordinal/ordinallaw11.PageStores", spec := "pageStores", named := ["ordinal/checksum.remainders"], apart := false, laid := [("ordinal/checksum.remainders", laid_ordinal_checksum_remainders)], narrowed := true }
def PageStoresUptoSaid : Prop := pageStoresUptoRow.holds Tryd.pinned (OpenSpec.upto pageStoresSpec)

end Rows
end Go.Proofs.YtjaoipdmchofoaaDoor
