/- What the walk asks of []uint8 at this program. Conditions: none. -/
import Derived.Test.YtlokfndonjldpaaDoorRows
import Derived.Test.YtlokfndonjldpaaDoorMem
namespace Go.Proofs.YtlokfndonjldpaaDoor
open Go.RowKit

theorem bytesT : OneC Tryd.prog 25 5 (.int .u8 0) 1 :=
  ⟨Tryd.underlying25, info_parts (by kernel_rfl : (Tryd.prog.info? 5).map (fun i => (i.zero, i.size, i.bytes)) = some (some (.int .u8 0), 1, 1)), rfl⟩
end Go.Proofs.YtlokfndonjldpaaDoor
