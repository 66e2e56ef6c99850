/- Lemmas. Conditions: those of each. -/
import Derived.Test.YtlpbeifnibodoaaGreatDoorY12
import Derived.Test.YtlpbeifnibodoaaGreatDoorY08
set_option linter.all false
set_option maxRecDepth 100000
set_option maxHeartbeats 16000000
namespace Go.Proofs.YtlpbeifnibodoaaGreatDoor
open Go.Proofs.Tryz Go.ChangeShapes Go.WideShapes Go.ChangeAt Go.RowKit
set_option maxRecDepth 100000
def zt:List Int:=[0,274646895,549293790,820201905,1098587580,1361435347,1640403810,1905808397,2197175160,2460548119,2722870694,2987750089,3280807620,3553878443,3811616794,4084100981]
theorem Dr:∀i:Fin 16,zt.getD i.1 0=nU (Crc.Oc.getD i.1 0#32):=by decide
theorem xR:prog.globalNamed "ordinal/checksum.remainders"=some 1:=by kernel_rfl
theorem Hp:(prog.globals[1]?).map (·.type)=some 292:=by kernel_rfl
theorem F1:prog.cellsOf 292=16:=by kernel_rfl
theorem Hq:prog.cellsOf 245=1:=by kernel_rfl
theorem AN{W:World}(h:laidMetH prog [("ordinal/checksum.remainders",Rows.laid_ordinal_checksum_remainders)] W):ld W:=by have b:Lib.TabIs prog W "ordinal/checksum.remainders" .u32 zt:=Lib.tabIs_of_head (rest:=[]) xR Hp underlying292 underlying245 Hq F1 h;intro i a;rw[b.cell xR i a,Dr ⟨i,a⟩]
noncomputable def tJ(os:Os):World:={World.holding prog os ⟨#[], #[],[]⟩with heap:=(World.holding prog os ⟨#[], #[],[]⟩).heap.modify 1 fun| .cells _ t frozen=> .cells (zt.map fun z=>Value.int .u32 z).toArray t frozen|o=>o}
end Go.Proofs.YtlpbeifnibodoaaGreatDoor
