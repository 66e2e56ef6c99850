/-
  No cell of these rows narrows 'for every input' (looked for: loops, veiled, ifaces, maps, wideKeys, modest, calm, conditions, laid).
  DERIVED. THE GIVEN ROWS OF THIS SEAT. 6 by the template 'for every input the law returns true; each argument reads behind the call as it read before'; 0 by the template 'total and deterministic' (their statements: YthpalmncfcahkaaTotals.lean).
  GIVEN WITH THE SEED: the statements are not yours to turn. If you find one false, say at which input.
  Laid BY PROGRAM, IN A SANDBOX (cutbox-rows.mjs): the forced cells as the released guide's own fill.sh prints them over the translation 6178fc3091cf5c70… (all of the seat's roots in one cut). By AI agents, Wed Nov 11 2026. No macro, syntax, notation, axiom, sorry.
-/
import Derived.Test.YthpalmncfcahkaaChecked
import GoSem.Claim
import GoSem.ClaimJoined
import GoSem.ClaimMapViews
import Derived.JoinedTies
import Derived.KernelRfl
namespace Go.Proofs.Ythpalmncfcahkaa
/- THE CELL 'sum', in the pinned program and in every row, IS THE sha256 OF THE DUMP (.gsa) THAT YthpalmncfcahkaaProg.lean LOADS. Nothing in Lean hashes anything: it is a label: what it is worth is what the hold of that sum in a sandbox is worth. -/
noncomputable def Try.pinned : Pinned := { name := "ythpalmncfcahkaa", sum := "6178fc3091cf5c70d71c2d2c542ac5dc277c91bcd7dac0564fce44ec96dd7070", checked := Try.checked }
namespace Rows
def none {H : Type} : Left H := { results := [], args := [] }

/-- 'ordinallaw10.DiskNew': WHATEVER THE INPUT: true; the input reads as it did. -/
def diskNewSpec : ChangeSpec := { name := "diskNew", fn := fun _ => fun
  | [d1, d2] => { results := [.lit (.bool true)], args := [d1, d2] }
  | _ => none }
def diskNewRow : OpenClaim := { program := "ythpalmncfcahkaa", sum := "6178fc3091cf5c70d71c2d2c542ac5dc277c91bcd7dac0564fce44ec96dd7070", func := "ordinal/ordinallaw10.DiskNew", spec := "diskNew", inPlace := ["internal/bytealg.MakeNoZero"], apart := false }
def DiskNewSaid : Prop := diskNewRow.holds Try.pinned (OpenSpec.ofChange diskNewSpec)

/-- ITS FALSE NEIGHBOUR: 'it returns false'. Refute it at one input. -/
def diskNewWrong : ChangeSpec := { name := "diskNew", fn := fun _ => fun
  | [d1, d2] => { results := [.lit (.bool false)], args := [d1, d2] }
  | _ => none }
def DiskNewWrongFalsely : Prop := diskNewRow.holds Try.pinned (OpenSpec.ofChange diskNewWrong)

/-- 'ordinallaw10.DiskHalves': WHATEVER THE INPUT: true; the input reads as it did. -/
def diskHalvesSpec : ChangeSpec := { name := "diskHalves", fn := fun _ => fun
  | [d1, d2] => { results := [.lit (.bool true)], args := [d1, d2] }
  | _ => none }
def diskHalvesRow : OpenClaim := { program := "ythpalmncfcahkaa", sum := "6178fc3091cf5c70d71c2d2c542ac5dc277c91bcd7dac0564fce44ec96dd7070", func := "ordinal/ordinallaw10.DiskHalves", spec := "diskHalves", inPlace := ["internal/bytealg.MakeNoZero"], apart := false }
def DiskHalvesSaid : Prop := diskHalvesRow.holds Try.pinned (OpenSpec.ofChange diskHalvesSpec)

/-- ITS FALSE NEIGHBOUR: 'it returns false'. Refute it at one input. -/
def diskHalvesWrong : ChangeSpec := { name := "diskHalves", fn := fun _ => fun
  | [d1, d2] => { results := [.lit (.bool false)], args := [d1, d2] }
  | _ => none }
def DiskHalvesWrongFalsely : Prop := diskHalvesRow.holds Try.pinned (OpenSpec.ofChange diskHalvesWrong)

/-- 'ordinallaw10.DiskDoes': WHATEVER THE INPUT: true; the input reads as it did. -/
def diskDoesSpec : ChangeSpec := { name := "diskDoes", fn := fun _ => fun
  | [d1, d2] => { results := [.lit (.bool true)], args := [d1, d2] }
  | _ => none }
def diskDoesRow : OpenClaim := { program := "ythpalmncfcahkaa", sum := "6178fc3091cf5c70d71c2d2c542ac5dc277c91bcd7dac0564fce44ec96dd7070", func := "ordinal/ordinallaw10.DiskDoes", spec := "diskDoes", inPlace := ["internal/bytealg.MakeNoZero"], apart := false }
def DiskDoesSaid : Prop := diskDoesRow.holds Try.pinned (OpenSpec.ofChange diskDoesSpec)

/-- ITS FALSE NEIGHBOUR: 'it returns false'. Refute it at one input. -/
def diskDoesWrong : ChangeSpec := { name := "diskDoes", fn := fun _ => fun
  | [d1, d2] => { results := [.lit (.bool false)], args := [d1, d2] }
  | _ => none }
def DiskDoesWrongFalsely : Prop := diskDoesRow.holds Try.pinned (OpenSpec.ofChange diskDoesWrong)

/-- 'ordinallaw10.DiskKeeps': WHATEVER THE INPUT: true; the input reads as it did. -/
def diskKeepsSpec : ChangeSpec := { name := "diskKeeps", fn := fun _ => fun
  | [d1, d2, d3] => { results := [.lit (.bool true)], args := [d1, d2, d3] }
  | _ => none }
def diskKeepsRow : OpenClaim := { program := "ythpalmncfcahkaa", sum := "6178fc3091cf5c70d71c2d2c542ac5dc277c91bcd7dac0564fce44ec96dd7070", func := "ordinal/ordinallaw10.DiskKeeps", spec := "diskKeeps", inPlace := ["internal/bytealg.MakeNoZero"], apart := false }
def DiskKeepsSaid : Prop := diskKeepsRow.holds Try.pinned (OpenSpec.ofChange diskKeepsSpec)

/-- ITS FALSE NEIGHBOUR: 'it returns false'. Refute it at one input. -/
def diskKeepsWrong : ChangeSpec := { name := "diskKeeps", fn := fun _ => fun
  | [d1, d2, d3] => { results := [.lit (.bool false)], args := [d1, d2, d3] }
  | _ => none }
def DiskKeepsWrongFalsely : Prop := diskKeepsRow.holds Try.pinned (OpenSpec.ofChange diskKeepsWrong)

/-- 'ordinallaw10.DiskEquals': WHATEVER THE INPUT: true; the input reads as it did. -/
def diskEqualsSpec : ChangeSpec := { name := "diskEquals", fn := fun _ => fun
  | [d1, d2, d3] => { results := [.lit (.bool true)], args := [d1, d2, d3] }
  | _ => none }
def diskEqualsRow : OpenClaim := { program := "ythpalmncfcahkaa", sum := "6178fc3091cf5c70d71c2d2c542ac5dc277c91bcd7dac0564fce44ec96dd7070", func := "ordinal/ordinallaw10.DiskEquals", spec := "diskEquals", inPlace := ["internal/bytealg.MakeNoZero"], apart := false }
def DiskEqualsSaid : Prop := diskEqualsRow.holds Try.pinned (OpenSpec.ofChange diskEqualsSpec)

/-- ITS FALSE NEIGHBOUR: 'it returns false'. Refute it at one input. -/
def diskEqualsWrong : ChangeSpec := { name := "diskEquals", fn := fun _ => fun
  | [d1, d2, d3] => { results := [.lit (.bool false)], args := [d1, d2, d3] }
  | _ => none }
def DiskEqualsWrongFalsely : Prop := diskEqualsRow.holds Try.pinned (OpenSpec.ofChange diskEqualsWrong)

/-- 'ordinallaw10.DiskCommutes': WHATEVER THE INPUT: true; the input reads as it did. -/
def diskCommutesSpec : ChangeSpec := { name := "diskCommutes", fn := fun _ => fun
  | [d1, d2, d3] => { results := [.lit (.bool true)], args := [d1, d2, d3] }
  | _ => none }
def diskCommutesRow : OpenClaim := { program := "ythpalmncfcahkaa", sum := "6178fc3091cf5c70d71c2d2c542ac5dc277c91bcd7dac0564fce44ec96dd7070", func := "ordinal/ordinallaw10.DiskCommutes", spec := "diskCommutes", inPlace := ["internal/bytealg.MakeNoZero"], apart := false }
def DiskCommutesSaid : Prop := diskCommutesRow.holds Try.pinned (OpenSpec.ofChange diskCommutesSpec)

/-- ITS FALSE NEIGHBOUR: 'it returns false'. Refute it at one input. -/
def diskCommutesWrong : ChangeSpec := { name := "diskCommutes", fn := fun _ => fun
  | [d1, d2, d3] => { results := [.lit (.bool false)], args := [d1, d2, d3] }
  | _ => none }
def DiskCommutesWrongFalsely : Prop := diskCommutesRow.holds Try.pinned (OpenSpec.ofChange diskCommutesWrong)

/- THE SECOND FORM. 'bulk': how many values and letters a reading holds, each counted each time it is reached (what is shared counts as often as it is met; a slice's spare places count too). A statement '..UptoSaid' is the law's where the arguments, and the package variables that the reading takes, are together of bulk at most 1048576: NARROWER than '..Said'. Prove '..Said' where nothing that the law and all that it calls make is longer than what came in: it says more and counts as full. Else prove '..UptoSaid'. A law counts once. -/
mutual
def uptoBulk {H : Type} : DataW H → Nat
  | .lit (.string bytes) => bytes.length + 1
  | .lit _ => 1
  | .nil => 1
  | .ptr d => uptoBulk d + 1
  | .slice elems spare => uptoBulkAll elems + uptoBulkAll spare + 1
  | .agg parts => uptoBulkAll parts + 1
  | .iface _ d => uptoBulk d + 1
  | .map entries => uptoBulkEntries entries + 1
  | .held _ => 1
def uptoBulkAll {H : Type} : List (DataW H) → Nat
  | [] => 0
  | d :: r => uptoBulk d + uptoBulkAll r
def uptoBulkEntries {H : Type} : List (Lit × DataW H) → Nat
  | [] => 0
  | x :: r => uptoBulkEntry x + uptoBulkEntries r
def uptoBulkEntry {H : Type} : Lit × DataW H → Nat
  | (.string bytes, d) => bytes.length + uptoBulk d + 1
  | (_, d) => uptoBulk d + 1
 end
def uptoSmall : (H : Type) → List (DataW H) → Bool := fun _ ds => decide (uptoBulkAll ds ≤ 1048576)
def OpenSpec.upto (s : _root_.Go.ChangeSpec) : _root_.Go.OpenSpec := { _root_.Go.OpenSpec.ofChange s with cond := some uptoSmall }

/-- 'ordinallaw10.DiskNew', WHERE WHAT IT READS IS OF BULK AT MOST 1048576: true; the input reads as it did. -/
def diskNewUptoRow : OpenClaim := { program := "ythpalmncfcahkaa", sum := "6178fc3091cf5c70d71c2d2c542ac5dc277c91bcd7dac0564fce44ec96dd7070", func := "ordinal/ordinallaw10.DiskNew", spec := "diskNew", inPlace := ["internal/bytealg.MakeNoZero"], apart := false, narrowed := true }
def DiskNewUptoSaid : Prop := diskNewUptoRow.holds Try.pinned (OpenSpec.upto diskNewSpec)

/-- 'ordinallaw10.DiskHalves', WHERE WHAT IT READS IS OF BULK AT MOST 1048576: true; the input reads as it did. -/
def diskHalvesUptoRow : OpenClaim := { program := "ythpalmncfcahkaa", sum := "6178fc3091cf5c70d71c2d2c542ac5dc277c91bcd7dac0564fce44ec96dd7070", func := "ordinal/ordinallaw10.DiskHalves", spec := "diskHalves", inPlace := ["internal/bytealg.MakeNoZero"], apart := false, narrowed := true }
def DiskHalvesUptoSaid : Prop := diskHalvesUptoRow.holds Try.pinned (OpenSpec.upto diskHalvesSpec)

/-- 'ordinallaw10.DiskDoes', WHERE WHAT IT READS IS OF BULK AT MOST 1048576: true; the input reads as it did. -/
def diskDoesUptoRow : OpenClaim := { program := "ythpalmncfcahkaa", sum := "6178fc3091cf5c70d71c2d2c542ac5dc277c91bcd7dac0564fce44ec96dd7070", func := "ordinal/ordinallaw10.DiskDoes", spec := "diskDoes", inPlace := ["internal/bytealg.MakeNoZero"], apart := false, narrowed := true }
def DiskDoesUptoSaid : Prop := diskDoesUptoRow.holds Try.pinned (OpenSpec.upto diskDoesSpec)

/-- 'ordinallaw10.DiskKeeps', WHERE WHAT IT READS IS OF BULK AT MOST 1048576: true; the input reads as it did. -/
def diskKeepsUptoRow : OpenClaim := { program := "ythpalmncfcahkaa", sum := "6178fc3091cf5c70d71c2d2c542ac5dc277c91bcd7dac0564fce44ec96dd7070", func := "ordinal/ordinallaw10.DiskKeeps", spec := "diskKeeps", inPlace := ["internal/bytealg.MakeNoZero"], apart := false, narrowed := true }
def DiskKeepsUptoSaid : Prop := diskKeepsUptoRow.holds Try.pinned (OpenSpec.upto diskKeepsSpec)

/-- 'ordinallaw10.DiskEquals', WHERE WHAT IT READS IS OF BULK AT MOST 1048576: true; the input reads as it did. -/
def diskEqualsUptoRow : OpenClaim := { program := "ythpalmncfcahkaa", sum := "6178fc3091cf5c70d71c2d2c542ac5dc277c91bcd7dac0564fce44ec96dd7070", func := "ordinal/ordinallaw10.DiskEquals", spec := "diskEquals", inPlace := ["internal/bytealg.MakeNoZero"], apart := false, narrowed := true }
def DiskEqualsUptoSaid : Prop := diskEqualsUptoRow.holds Try.pinned (OpenSpec.upto diskEqualsSpec)

/-- 'ordinallaw10.DiskCommutes', WHERE WHAT IT READS IS OF BULK AT MOST 1048576: true; the input reads as it did. -/
def diskCommutesUptoRow : OpenClaim := { program := "ythpalmncfcahkaa", sum := "6178fc3091cf5c70d71c2d2c542ac5dc277c91bcd7dac0564fce44ec96dd7070", func := "ordinal/ordinallaw10.DiskCommutes", spec := "diskCommutes", inPlace := ["internal/bytealg.MakeNoZero"], apart := false, narrowed := true }
def DiskCommutesUptoSaid : Prop := diskCommutesUptoRow.holds Try.pinned (OpenSpec.upto diskCommutesSpec)

end Rows
end Go.Proofs.Ythpalmncfcahkaa
