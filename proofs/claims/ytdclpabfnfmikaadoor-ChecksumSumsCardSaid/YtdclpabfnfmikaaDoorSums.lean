/- ChecksumSums: the walk. Conditions: the table of remainders is laid. -/
import Derived.Test.YtdclpabfnfmikaaDoorSum
set_option linter.unusedSimpArgs false
set_option linter.unusedVariables false
namespace Go.Proofs.YtdclpabfnfmikaaDoor
open Go.RowKit

theorem sums_walk (x : Int) (hx0 : 0 ≤ x) (hx1 : x < 256) (A : Option Addr) (n cap : Nat) (l : List UInt8) (w : World) (hT : Tab w) (hb : RB w A n l) (hnc : n ≤ cap) (hc : cap ≤ 9223372036854775807) :
    Calls Tryd.prog 3 #[.slice A n cap, .int .u8 x] w fun e w' => e = .returned (.bool true) ∧ Below w.heap.size w w' := by
  by_cases hn : 400 < n
  · go_enter Tryd.func3, Tryd.ntmps3
    go_wp2_with fail
    refine (awake_any _ hT).mono ?_
    rintro e w' ⟨rfl, hbw⟩
    go_wp2_with fail
    go_ret
    exact ⟨rfl, hbw⟩
  · obtain ⟨k, hk, hkn⟩ : ∃ k : Nat, x % (↑n + 1) = (k : Int) ∧ k ≤ n := by
      have h0 := Int.emod_nonneg x (show ((n : Int) + 1) ≠ 0 by omega)
      have h1 := Int.emod_lt_of_pos x (show 0 < ((n : Int) + 1) by omega)
      exact ⟨(x % (↑n + 1)).toNat, by omega, by omega⟩
    have h1 : (Crc.upd (Crc.crc (l.take k)) (l.drop k) == Crc.crc l) = true := by
      unfold Crc.crc
      rw [← Crc.upd_append, List.take_append_drop]
      exact beq_self_eq_true _
    have h2 : (Crc.upd (Crc.crc []) l == Crc.crc l) = true := by
      rw [Crc.crc_nil]; exact beq_self_eq_true _
    have hz := RB.nil w none
    have hcut := hb.cut (cap := cap) hkn hnc
    have hpre := hb.pre hkn
    go_enter Tryd.func3, Tryd.ntmps3
    go_wp2_with fail
    refine (refSum_any _ _ _ l _ hb (by omega)).mono ?_
    rintro e w' ⟨rfl, rfl⟩
    go_wp2_with fail
    refine wp_region_ext (by kernel_rfl) (by kernel_rfl) ?_
    repeat (go_big_quiet_step (first
      | (go_at_call 11; exact Ext.calls_same _ (sum_any _ _ _ l _ (hT.keep (Ext.h _)) (hb.below (Ext.h _)) (by omega)))
      | (go_at_call 11; exact Ext.calls_same _ (sum_any _ _ _ [] _ (hT.keep (Ext.h _)) (hz.below (Ext.h _)) (by omega)))
      | (go_at_call 10; exact Ext.calls_same _ (refSum_any _ _ _ (l.take k) _ (hpre.below (Ext.h _)) (by omega)))
      | (go_at_call 12; exact Ext.calls_same _ (up_any _ _ _ _ (l.drop k) _ (hT.keep (Ext.h _)) (hcut.below (Ext.h _)) (by omega)))
      | (go_at_call 12; exact Ext.calls_same _ (up_any _ _ _ _ l _ (hT.keep (Ext.h _)) (hb.below (Ext.h _)) (by omega)))
      | (go_at_call 9; exact Ext.calls _ (awake_any _ (hT.keep (Ext.h _))))))
    refine wpQuiet_nil ?_
    rintro _ ⟨y, rfl⟩
    go_wp2_with fail
    all_goals go_ret
    all_goals exact ⟨rfl, y.h⟩
end Go.Proofs.YtdclpabfnfmikaaDoor
