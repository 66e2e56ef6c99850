/- Functions of package disk on the tree of sectors, walked. Conditions: the tree reads. -/
import Derived.Test.YthpalmncfcahkaaTree
import Derived.Test.YthpalmncfcahkaaBy
import Derived.Laws.BitsAllLaws
import Derived.Test.YthpalmncfcahkaaDraw
set_option linter.unusedSimpArgs false
set_option linter.unusedVariables false
namespace Go.Proofs.Ythpalmncfcahkaa
open Go.RowKit

theorem old_cell {w w' : World} {a : Addr} {v : Value} (hb : Below w.heap.size w w') (h : w.cell? a = some v) : w'.cell? a = some v := (hb.cell (World.block_lt_of_cell? w a h)).trans h
theorem arrSec : ArrT Try.prog 65 (zero128.map byV) := (by kernel_rfl : (Try.prog.info? 65).map (fun i => (i.zero, i.size)) = some (some (.agg (zero128.map byV).toArray), 128))
theorem arrSecN : (Try.prog.info? 65).map (·.size) = some 128 := by kernel_rfl
theorem arrLeaf : ArrT Try.prog 90 (ptrs fun _ => none) := (by kernel_rfl : (Try.prog.info? 90).map (fun i => (i.zero, i.size)) = some (some (.agg (ptrs fun _ => none).toArray), 32))
theorem arrBrn : ArrT Try.prog 88 (ptrs fun _ => none) := (by kernel_rfl : (Try.prog.info? 88).map (fun i => (i.zero, i.size)) = some (some (.agg (ptrs fun _ => none).toArray), 32))
theorem arrRoot : ArrT Try.prog 86 (ptrs fun _ => none) := (by kernel_rfl : (Try.prog.info? 86).map (fun i => (i.zero, i.size)) = some (some (.agg (ptrs fun _ => none).toArray), 32))

set_option maxRecDepth 100000 in
theorem find_any (p : Option Addr) (f : Secs) (i : Nat) (w : World) (h : Tree w p f) (hi : i < 32768) :
    Calls Try.prog 25 #[.pointer p, .int .i64 i] w fun e w' => e = .returned (.agg ((f i).map byV).toArray) ∧ Below w.heap.size w w' := by
  have hz := fun w => run_zeroV arrSec w
  rcases h.look i hi with ⟨rfl, hf⟩ | ⟨g1, p2, rfl, e1, h2⟩
  · rw [hf]
    clear hf
    go_enter Try.func25, Try.ntmps25
    go_wp2_with (first | ((with_reducible refine is_alloc 65 ?_); refine wp_allocB _ arrSec ?_; intro w1 hO hB1 hs1; go_frame) | ((with_reducible refine is_store 65 ?_); go_loud (refine wp_storeB _ _ _ _ hO (arrSecN.trans (by simp [zero128_len])) (by simp [zero128_len]) (byV_one _) rfl rfl ?_); intro w2 hO2 r2; go_frame))
    refine bodyPost_ret (results_cell_row (by rfl) _ _ w.heap.size _ _ _ _ rfl hO2 Try.underlying65 rfl (arrSecN.trans (by simp [zero128_len]))) rfl ⟨rfl, hB1.grown r2 hB1.size (fun k hk => by cases hk; exact Nat.le_refl _)⟩
  rcases h2 with ⟨rfl, hf⟩ | ⟨g2, p3, rfl, e2, h3⟩
  · rw [hf]
    clear hf
    go_enter Try.func25, Try.ntmps25
    go_wp2_with (first | ((with_reducible refine is_alloc 65 ?_); refine wp_allocB _ arrSec ?_; intro w1 hO hB1 hs1; go_frame; have k1 := old_cell hB1 e1) | ((with_reducible refine is_store 65 ?_); refine wp_storeB _ _ _ _ hO (arrSecN.trans (by simp [zero128_len])) (by simp [zero128_len]) (byV_one _) rfl rfl ?_; intro w2 hO2 r2; go_frame))
    refine bodyPost_ret (results_cell_row (by rfl) _ _ w.heap.size _ _ _ _ rfl hO2 Try.underlying65 rfl (arrSecN.trans (by simp [zero128_len]))) rfl ⟨rfl, hB1.grown r2 hB1.size (fun k hk => by cases hk; exact Nat.le_refl _)⟩
  rcases h3 with ⟨rfl, hf⟩ | ⟨g3, p4, rfl, e3, h4⟩
  · rw [hf]
    clear hf
    go_enter Try.func25, Try.ntmps25
    go_wp2_with (first | ((with_reducible refine is_alloc 65 ?_); refine wp_allocB _ arrSec ?_; intro w1 hO hB1 hs1; go_frame; have k1 := old_cell hB1 e1; have k2 := old_cell hB1 e2) | ((with_reducible refine is_store 65 ?_); refine wp_storeB _ _ _ _ hO (arrSecN.trans (by simp [zero128_len])) (by simp [zero128_len]) (byV_one _) rfl rfl ?_; intro w2 hO2 r2; go_frame))
    refine bodyPost_ret (results_cell_row (by rfl) _ _ w.heap.size _ _ _ _ rfl hO2 Try.underlying65 rfl (arrSecN.trans (by simp [zero128_len]))) rfl ⟨rfl, hB1.grown r2 hB1.size (fun k hk => by cases hk; exact Nat.le_refl _)⟩
  rcases h4 with ⟨rfl, hf⟩ | ⟨g4, rfl, b4, hl⟩
  · rw [hf]
    clear hf
    go_enter Try.func25, Try.ntmps25
    go_wp2_with (first | ((with_reducible refine is_alloc 65 ?_); refine wp_allocB _ arrSec ?_; intro w1 hO hB1 hs1; go_frame; have k1 := old_cell hB1 e1; have k2 := old_cell hB1 e2; have k3 := old_cell hB1 e3) | ((with_reducible refine is_store 65 ?_); refine wp_storeB _ _ _ _ hO (arrSecN.trans (by simp [zero128_len])) (by simp [zero128_len]) (byV_one _) rfl rfl ?_; intro w2 hO2 r2; go_frame))
    refine bodyPost_ret (results_cell_row (by rfl) _ _ w.heap.size _ _ _ _ rfl hO2 Try.underlying65 rfl (arrSecN.trans (by simp [zero128_len]))) rfl ⟨rfl, hB1.grown r2 hB1.size (fun k hk => by cases hk; exact Nat.le_refl _)⟩
  · have HL := hid hl
    clear hl
    go_enter Try.func25, Try.ntmps25
    go_wp2_with (first
      | ((with_reducible refine is_alloc 65 ?_); refine wp_allocB _ arrSec ?_; intro w1 hO hB1 hs1; go_frame; have k1 := old_cell hB1 e1; have k2 := old_cell hB1 e2; have k3 := old_cell hB1 e3; have k4 := (Blk.keep b4 hB1))
      | ((with_reducible refine is_load 65 ?_); refine wp_loadB _ _ _ _ _ k4 Try.underlying65 (arrSecN.trans (by rw [List.length_map, HL.out])) rfl ?_; go_frame)
      | ((with_reducible refine is_store 65 ?_); refine wp_storeB _ _ _ _ hO (arrSecN.trans (by rw [List.length_map, HL.out])) (by rw [List.length_map, List.length_map, HL.out, zero128_len]) (byV_one _) rfl rfl ?_; intro w2 hO2 r2; go_frame))
    refine bodyPost_ret (results_cell_row (by rfl) _ _ w.heap.size _ _ _ _ rfl hO2 Try.underlying65 rfl (arrSecN.trans (by simp [HL.out]))) rfl ⟨rfl, hB1.grown r2 hB1.size (fun k hk => by cases hk; exact Nat.le_refl _)⟩
end Go.Proofs.Ythpalmncfcahkaa
