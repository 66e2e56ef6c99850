/- The table of remainders: what the row's list gives, and a world for a witness that holds it. Conditions: none. -/
import Derived.Test.YtlokfndonjldpaaDoorSum
import Derived.Test.YtlokfndonjldpaaDoorEnd
set_option linter.unusedSimpArgs false
set_option linter.unusedVariables false
namespace Go.Proofs.YtlokfndonjldpaaDoor
open Go.ChangeShapes Go.WideShapes Go.ChangeAt Go.RowKit
set_option maxRecDepth 100000

theorem tab_own : ownKnob Tryd.prog.godebug = none := by kernel_rfl
theorem tab_lo : laidOutB Tryd.prog = true := by kernel_rfl
def tabNums : List Int := [0, 274646895, 549293790, 820201905, 1098587580, 1361435347, 1640403810, 1905808397, 2197175160, 2460548119, 2722870694, 2987750089, 3280807620, 3553878443, 3811616794, 4084100981]
theorem tabNums_eq : ∀ i : Fin 16, tabNums.getD i.1 0 = N32 (Crc.tab.getD i.1 0#32) := by decide
theorem tab_named : Tryd.prog.globalNamed "ordinal/checksum.remainders" = some 0 := by kernel_rfl
theorem tab_type : (Tryd.prog.globals[0]?).map (·.type) = some 134 := by kernel_rfl
theorem tab_cells : Tryd.prog.cellsOf 134 = 16 := by kernel_rfl
theorem tab_cell : Tryd.prog.cellsOf 113 = 1 := by kernel_rfl
theorem tab_of_laid {W : World} (h : laidMetH Tryd.prog [("ordinal/checksum.remainders", Rows.laid_ordinal_checksum_remainders)] W) : Tab W := by
  have hT : Lib.TabIs Tryd.prog W "ordinal/checksum.remainders" .u32 tabNums :=
    Lib.tabIs_of_head (rest := []) tab_named tab_type Tryd.underlying134 Tryd.underlying113 tab_cell tab_cells h
  intro i hi
  rw [hT.cell tab_named i hi, tabNums_eq ⟨i, hi⟩]

/-- a world for the witness: the settled one, the table's block holding what its initialiser lays -/
noncomputable def laidWorld (os : Os) : World :=
  { World.holding Tryd.prog os ⟨#[], #[], []⟩ with heap := (World.holding Tryd.prog os ⟨#[], #[], []⟩).heap.modify 0 fun
      | .cells _ t frozen => .cells (tabNums.map fun z => Value.int .u32 z).toArray t frozen
      | o => o }
end Go.Proofs.YtlokfndonjldpaaDoor
