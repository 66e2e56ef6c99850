/- ChecksumAffine: the walk. Conditions: the table of remainders is laid. -/
import Derived.Test.YtdclpabfnfmikaaDoorSum
import Derived.Deep.RegionHeld3
set_option linter.unusedSimpArgs false
set_option linter.unusedVariables false
namespace Go.Proofs.YtdclpabfnfmikaaDoor
open Go.RowKit

theorem affine_walk (a b c : BitVec 32) (A : Option Addr) (n cap : Nat) (l : List UInt8) (w : World) (hT : Tab w) (hb : RB w A n l) (hc : n ≤ 9223372036854775807) :
    Calls Tryd.prog 6 #[.agg #[.int .u32 (N32 a), .int .u32 (N32 b), .int .u32 (N32 c)], .slice A n cap] w fun e w' => e = .returned (.bool true) ∧ Below w.heap.size w w' := by
  by_cases hn : 400 < n
  · go_enter Tryd.func6, Tryd.ntmps6
    go_wp2_with fail
    refine (awake_any _ (hT.alloc _)).mono ?_
    rintro e w' ⟨rfl, hbw⟩
    go_wp2_with fail
    go_ret
    exact ⟨rfl, ((Below.refl _ _).alloc (Nat.le_refl _) _).trans (hbw.mono (by simp))⟩
  · have hmix : (Crc.upd a l ^^^ Crc.upd b l ^^^ Crc.upd c l == Crc.upd (a ^^^ b ^^^ c) l) = true := by rw [Crc.upd_affine]; exact beq_self_eq_true _
    go_enter Tryd.func6, Tryd.ntmps6
    go_wp2_with fail
    obtain ⟨w1, hw1⟩ : ∃ w1, w1 = w.alloc (.cells #[Value.int IntKind.u32 (N32 a), Value.int IntKind.u32 (N32 b), Value.int IntKind.u32 (N32 c)] 31) := ⟨_, rfl⟩
    have hT1 : Tab w1 := hw1 ▸ hT.alloc _
    have hb1 : RB w1 A n l := hw1 ▸ hb.alloc _
    have hB1 : Below w.heap.size w w1 := hw1 ▸ (Below.refl _ _).alloc (Nat.le_refl _) _
    have c0 : ∀ x : Ext w1, x.w.cell? ⟨w.heap.size, 0, none⟩ = some (.int .u32 (N32 a)) := fun x => Ext.cell (by rw [hw1]; simp [go_sem]) x
    have c1 : ∀ x : Ext w1, x.w.cell? ⟨w.heap.size, 1, none⟩ = some (.int .u32 (N32 b)) := fun x => Ext.cell (by rw [hw1]; simp [go_sem]) x
    have c2 : ∀ x : Ext w1, x.w.cell? ⟨w.heap.size, 2, none⟩ = some (.int .u32 (N32 c)) := fun x => Ext.cell (by rw [hw1]; simp [go_sem]) x
    rw [← hw1]
    clear hw1
    refine wp_region_ext (by kernel_rfl) (by kernel_rfl) ?_
    repeat (go_big_quiet_step (first
      | (go_at_call 12; exact Ext.calls_same _ (up_any _ _ _ _ l _ (hT1.keep (Ext.h _)) (hb1.below (Ext.h _)) hc))
      | (go_at_call 9; exact Ext.calls _ (awake_any _ (hT1.keep (Ext.h _))))))
    refine wpQuiet_nil ?_
    rintro _ ⟨x, rfl⟩
    go_wp2_with fail
    go_ret
    exact ⟨rfl, hB1.trans (x.h.mono hB1.size)⟩
end Go.Proofs.YtdclpabfnfmikaaDoor
