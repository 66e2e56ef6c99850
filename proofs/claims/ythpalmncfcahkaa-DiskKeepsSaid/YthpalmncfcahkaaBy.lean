/- What the walk asks of []uint8 at this program. Conditions: none. -/
import Derived.Test.YthpalmncfcahkaaRows
import Derived.Test.YthpalmncfcahkaaMem
namespace Go.Proofs.Ythpalmncfcahkaa
open Go.RowKit

theorem bytesT : OneC Try.prog 31 5 (.int .u8 0) 1 :=
  ⟨Try.underlying31, info_parts (by kernel_rfl : (Try.prog.info? 5).map (fun i => (i.zero, i.size, i.bytes)) = some (some (.int .u8 0), 1, 1)), rfl⟩
end Go.Proofs.Ythpalmncfcahkaa
