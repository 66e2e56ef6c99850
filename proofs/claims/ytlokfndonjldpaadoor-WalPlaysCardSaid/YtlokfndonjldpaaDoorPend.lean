/- Pending of package disk, walked. Conditions: none. -/
import Derived.Test.YtlokfndonjldpaaDoorDisk
set_option linter.unusedSimpArgs false
set_option linter.unusedVariables false
namespace Go.Proofs.YtlokfndonjldpaaDoor
open Go.RowKit

theorem pending_any (d : DV) (w : World) :
    Calls Tryd.prog 30 #[d.v] w fun e w' => e = .returned (.int .i64 d.m) ∧ Below w.heap.size w w' := by
  unfold DV.v
  go_enter Tryd.func30, Tryd.ntmps30
  go_wp2_with fail
  go_ret
  exact ⟨rfl, (Below.refl _ _).alloc (Nat.le_refl _) _⟩
end Go.Proofs.YtlokfndonjldpaaDoor
