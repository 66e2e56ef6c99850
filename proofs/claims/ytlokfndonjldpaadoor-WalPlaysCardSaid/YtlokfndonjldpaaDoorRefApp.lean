/- The reference of layer 9: Append and Split, each walked once. Conditions: the length has room. -/
import Derived.Test.YtlokfndonjldpaaDoorApp
import Derived.Test.YtlokfndonjldpaaDoorRefSum
set_option linter.unusedSimpArgs false
set_option linter.unusedVariables false
namespace Go.Proofs.YtlokfndonjldpaaDoor
open Go.RowKit

theorem refAppend_any (A : Option Addr) (n c : Nat) (l : List UInt8) (w : World) (hb : RB w A n l) (hn : n ≤ 70368744177664) :
    Calls Tryd.prog 34 #[.slice A n c] w fun e w' => ∃ v, e = .returned v ∧ w'.ownsRow w.heap.size 5 1 v (sealed l).length ((sealed l).map byV) ∧ Below w.heap.size w w' := by
  have HL := hid hb.len
  have hown0 : (w.alloc (.cells #[] 5)).ownsRow w.heap.size 5 1 (.slice (some ⟨w.heap.size, 0, none⟩) 0 0) 0 [] := World.ownsRow_made w #[] 0 (Nat.le_refl _) (by unfold maxLen; omega) rfl
  go_enter Tryd.func34, Tryd.ntmps34
  go_wp2_with fail
  refine (refSum_any _ _ _ l _ hb (by omega)).mono ?_
  rintro e w' ⟨rfl, rfl⟩
  go_wp2_with (first
    | (at_builtin; refine wp_app _ rfl (.tmp 7) (.tmp 8) 25 rfl w.heap.size 5 _ 1 bytesT _ _ _ hown0 rfl _ _ _ _ (RB.alloc hb _) rfl (byV_one _) (by unfold maxLen; omega) (by omega) (by simp) ?_; intro v1 w1 hown1 hg1 hat1; have hB1 : Below w.heap.size w w1 := ((Below.refl _ _).alloc (Nat.le_refl _) _).grown hg1 (by simp) (fun k hk => by simp [Value.ownBlock] at hk; omega))
    | (at_builtin; refine wp_app _ rfl (.tmp 10) (.tmp 22) 25 rfl w.heap.size 5 _ 1 bytesT _ _ _ (hown1.alloc _) rfl _ 4 4 _ (RL.new w1 _ _ _ 1 4 rfl) rfl (by intro u hu; simp at hu; rcases hu with rfl | rfl | rfl | rfl <;> rfl) (by unfold maxLen; omega) (by omega) (by have := hB1.size; simp; omega) ?_; intro v2 w2 hown2 hg2 hat2))
  go_ret
  refine ⟨v2, rfl, ?_, (hB1.alloc hB1.size _).grown hg2 (by have := hB1.size; simp; omega) (fun k hk => (hown1.lt k hk).1)⟩
  rw [sealed_len, HL.out]
  show w2.ownsRow _ _ _ _ (n + 4) _
  simpa [sealed, sumBytes, byV, byteAt] using hown2

end Go.Proofs.YtlokfndonjldpaaDoor
