/- Lemmas. Conditions: those of each. -/
import Derived.Test.YtlpbeifnibodoaaGreatDoorRows
import Derived.Test.YtlpbeifnibodoaaGreatDoorY02
set_option linter.all false
set_option maxRecDepth 100000
set_option maxHeartbeats 16000000
namespace Go.Proofs.YtlpbeifnibodoaaGreatDoor
open Go.Proofs.Tryz Go.RowKit
theorem gp:uM prog 59 5 (.int .u8 0) 1:=⟨underlying59,info_parts (by kernel_rfl:(prog.info? 5).map (fun i=>(i.zero,i.size,i.bytes))=some (some (.int .u8 0),1,1)),rfl⟩
end Go.Proofs.YtlpbeifnibodoaaGreatDoor
