/- The law's Sector, walked. Conditions: none. -/
import Derived.Test.YthpalmncfcahkaaRep
set_option linter.unusedSimpArgs false
set_option linter.unusedVariables false
namespace Go.Proofs.Ythpalmncfcahkaa
open Go.RowKit

/-- a sector of two halves -/
def sect (a b : UInt8) : List UInt8 := List.replicate 64 a ++ List.replicate 64 b
theorem sect_len (a b : UInt8) : (sect a b).length = 128 := by simp [sect]
theorem bytesI : ∃ i, Try.prog.info? 5 = some i ∧ i.zero = some (.int .u8 0) ∧ i.size = 1 ∧ i.bytes = 1 := bytesT.2.1

set_option maxHeartbeats 1000000 in
theorem sector_any (a b : UInt8) (w : World) :
    Calls Try.prog 14 #[.int .u8 (N8 a), .int .u8 (N8 b)] w fun e w' => ∃ v, e = .returned v ∧ w'.ownsRow w.heap.size 5 1 v 128 ((sect a b).map byV) ∧ Below w.heap.size w w' := by
  go_enter Try.func14, Try.ntmps14
  go_wp2_with fail
  have hP : Blk (w.alloc (.cells #[.int .u8 (N8 a)] 5)) w.heap.size 5 [.int .u8 (N8 a)] := Blk.new w _ _
  have hB : Below w.heap.size w (w.alloc (.cells #[.int .u8 (N8 a)] 5)) := (Below.refl _ _).alloc (Nat.le_refl _) _
  have hS : (w.alloc (.cells #[.int .u8 (N8 a)] 5)).heap.size = w.heap.size + 1 := by simp
  generalize (w.alloc (.cells #[.int .u8 (N8 a)] 5)) = w1 at hP hB hS ⊢
  have hr1 : RB w1 (some ⟨w.heap.size, 0, none⟩) 1 [a] := hP.rl 0 1 1 (by simp)
  refine (repeat_any a 64 _ 1 w1 hr1 (by omega)).mono ?_
  rintro e w2 ⟨g, rfl, hg, hg2, hr2, b2⟩
  have B2 := hB.trans (b2.mono hB.size)
  clear hP hB hS hr1 b2
  go_wp2_with fail
  have hP : Blk (w2.alloc (.cells #[.int .u8 (N8 b)] 5)) w2.heap.size 5 [.int .u8 (N8 b)] := Blk.new w2 _ _
  have hB : Below w2.heap.size w2 (w2.alloc (.cells #[.int .u8 (N8 b)] 5)) := (Below.refl _ _).alloc (Nat.le_refl _) _
  have hS : (w2.alloc (.cells #[.int .u8 (N8 b)] 5)).heap.size = w2.heap.size + 1 := by simp
  generalize (w2.alloc (.cells #[.int .u8 (N8 b)] 5)) = w3 at hP hB hS ⊢
  have hr3 : RB w3 (some ⟨w2.heap.size, 0, none⟩) 1 [b] := hP.rl 0 1 1 (by simp)
  have hr2' := hr2.below hB
  have B3 := B2.trans (hB.mono B2.size)
  refine (repeat_any b 64 _ 1 w3 hr3 (by omega)).mono ?_
  rintro e w4 ⟨g', rfl, hg', hg2', hr4, b4⟩
  have hr2'' := hr2'.below b4
  have B4 := B3.trans (b4.mono B3.size)
  clear hP hB hS hr3 b4 hr2 hr2'
  go_wp2_with (at_builtin; refine wp_app_full rfl _ _ 31 rfl 5 _ 1 1 Try.underlying31 bytesI rfl (by omega) _ 64 64 _ hr2'' (by omega) rfl _ 64 64 _ hr4 (by omega) rfl (by omega) (by unfold maxLen; omega) (by omega) ?_; intro v5 w5 hown5 r5)
  go_ret
  refine ⟨v5, rfl, ?_, B4.grown r5 B4.size (fun k hk => by cases hk)⟩
  have := own_base hown5 (B4.size)
  rw [sect, List.map_append]
  exact this
end Go.Proofs.Ythpalmncfcahkaa
