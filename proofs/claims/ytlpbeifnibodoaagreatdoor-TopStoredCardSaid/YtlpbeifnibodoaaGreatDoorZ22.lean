/- Lemmas. Conditions: those of each. -/
import Derived.Test.YtlpbeifnibodoaaGreatDoorZ11
import Derived.Test.YtlpbeifnibodoaaGreatDoorZ07
set_option linter.all false
set_option maxRecDepth 100000
set_option maxHeartbeats 16000000
namespace Go.Proofs.YtlpbeifnibodoaaGreatDoor
open Go.Proofs.Tryz Go.ChangeShapes Go.WideShapes Go.ChangeAt Go.RowKit
set_option maxRecDepth 100000
def AM:List Int:=[0,274646895,549293790,820201905,1098587580,1361435347,1640403810,1905808397,2197175160,2460548119,2722870694,2987750089,3280807620,3553878443,3811616794,4084100981]
theorem Fa:∀i:Fin 16,AM.getD i.1 0=pw (Crc.Pr.getD i.1 0#32):=by decide
theorem zu:prog.globalNamed "ordinal/checksum.remainders"=some 1:=by kernel_rfl
theorem JC:(prog.globals[1]?).map (·.type)=some 292:=by kernel_rfl
theorem H6:prog.cellsOf 292=16:=by kernel_rfl
theorem JD:prog.cellsOf 245=1:=by kernel_rfl
theorem CA{W:World}(h:laidMetH prog [("ordinal/checksum.remainders",Rows.laid_ordinal_checksum_remainders)] W):lu W:=by have b:Lib.TabIs prog W "ordinal/checksum.remainders" .u32 AM:=Lib.tabIs_of_head (rest:=[]) zu JC underlying292 underlying245 JD H6 h;intro i a;rw[b.cell zu i a,Fa ⟨i,a⟩]
noncomputable def uN(os:Os):World:={World.holding prog os ⟨#[], #[],[]⟩with heap:=(World.holding prog os ⟨#[], #[],[]⟩).heap.modify 1 fun| .cells _ t frozen=> .cells (AM.map fun z=>Value.int .u32 z).toArray t frozen|o=>o}
end Go.Proofs.YtlpbeifnibodoaaGreatDoor
