/- number and value of package page, each walked once. Conditions: the number has room. -/
import Derived.Test.YtlokfndonjldpaaDoorSum
import Derived.Test.YtlokfndonjldpaaDoorPageP
import Derived.Test.YtlokfndonjldpaaDoorBlk
import Derived.Laws.BitsAllLaws
set_option linter.unusedSimpArgs false
set_option linter.unusedVariables false
namespace Go.Proofs.YtlokfndonjldpaaDoor
open Go.RowKit

theorem arr8 : ArrT Tryd.prog 126 ((List.replicate 8 0).map byV) := (by kernel_rfl : (Tryd.prog.info? 126).map (fun i => (i.zero, i.size)) = some (some (.agg ((List.replicate 8 0).map byV).toArray), 8))

theorem arr8n : (Tryd.prog.info? 126).map (·.size) = some 8 := by kernel_rfl

theorem byte_val (v k : Nat) : byV (UInt8.ofNat (v / 256 ^ k)) = .int .u8 ((v : Int) / 2 ^ (8 * k) % 256) := by
  have e : (UInt8.ofNat (v / 256 ^ k)).toNat = v / 256 ^ k % 256 := by simp
  unfold byV N8
  have h2 : ((2 : Int) ^ (8 * k)) = ((256 ^ k : Nat) : Int) := by rw [Int.natCast_pow, Int.pow_mul]; rfl
  rw [e, h2, ← Int.natCast_ediv]
  rfl

theorem number_any (v : Nat) (hv : v < 18446744073709551616) (w : World) :
    Calls Tryd.prog 53 #[.int .u64 v] w fun e w' => e = .returned (.agg ((le 8 v).map byV).toArray) ∧ Below w.heap.size w w' := by
  go_enter Tryd.func53, Tryd.ntmps53
  go_wp2_with fail
  go_loopw [5] (fun i wr => ∃ k : Nat, k ≤ 8 ∧ i = .int .i64 k ∧ Blk wr w.heap.size 126 ((List.replicate 8 0).map byV) ∧ Blk wr (w.heap.size + 1) 126 (((le 8 v).map byV).take k ++ List.replicate (8 - k) (.int .u8 0)) ∧ Below w.heap.size w wr) (fun i _ => 8 - (intOf i).toNat)
  case atStart =>
    refine ⟨0, by omega, rfl, ?_, ?_, ?_⟩
    · exact (Blk.new w _ _).keep ((Below.refl _ _).alloc (Nat.le_refl _) _)
    · have := Blk.new (w.alloc (.cells ((List.replicate 8 0).map byV).toArray 126)) 126 ((List.replicate 8 0).map byV)
      simpa [byV, N8] using this
    · exact ((Below.refl _ _).alloc (Nat.le_refl _) _).alloc (by simp) _
  case round =>
    obtain ⟨k, hk, rfl, hZ, hO, hbel⟩ := hrel
    by_cases hlt : k < 8
    · have hfz : wr.frozen? ⟨w.heap.size + 1, k, none⟩ = false := hO.frozen k
      have hcz : wr.cell? ⟨w.heap.size + 1, k, none⟩ = some (.int .u8 0) := by
        rw [hO.cell, List.getElem?_append_right (by simp; omega), List.getElem?_replicate, if_pos (by simp; omega)]
      go_wp2_with fail
      go_roundw
      case rel =>
        refine ⟨k + 1, by omega, by go_num, ?_, ?_, ?_⟩
        · exact hZ.grown (hO.setg _ _) (by simp)
        · have := hO.set_ k (.int .u8 (↑v / 2 ^ (8 * k) % 256))
          rwa [set_next (by rw [List.getElem?_map, le_at 8 v k hlt]; exact congrArg some (byte_val v k)) hlt] at this
        · exact hbel.grown (hO.setg _ _) hbel.size (fun g hg => by cases hg; omega)
      case measure => simp [intOf]; omega
    · obtain rfl : k = 8 := by omega
      simp only [Nat.sub_self, List.replicate_zero, List.append_nil] at hO
      rw [List.take_of_length_le (by simp)] at hO
      go_wp2_with (first
        | ((with_reducible refine is_load 126 ?_); go_loud (refine wp_loadB _ _ _ _ _ hO Tryd.underlying126 (arr8n.trans (by simp)) rfl ?_))
        | ((with_reducible refine is_store 126 ?_); refine wp_storeB _ _ _ _ hZ (arr8n.trans (by simp)) (by simp) (byV_one _) rfl rfl ?_; intro w1 hR hg1))
      refine bodyPost_ret (results_cell_row (by rfl) _ _ w.heap.size _ _ _ _ rfl hR Tryd.underlying126 rfl (arr8n.trans (by simp))) rfl ⟨rfl, hbel.grown hg1 hbel.size (fun g hg => by cases hg; omega)⟩

theorem or_shift (n b k : Nat) (hn : n < 256 ^ k) : n ||| b * 2 ^ (8 * k) = n + 256 ^ k * b := by
  have e : 256 ^ k = 2 ^ (8 * k) := by rw [Nat.pow_mul]
  rw [e] at hn ⊢
  rw [Nat.mul_comm b, Nat.or_comm, ← Nat.two_pow_add_eq_or_of_lt hn, Nat.add_comm]

theorem value_any (A : Option Addr) (n c : Nat) (l : List UInt8) (w : World) (hb : RB w A n l) (hn : n ≤ 8) :
    Calls Tryd.prog 39 #[.slice A n c] w fun e w' => e = .returned (.int .u64 (num l)) ∧ w = w' := by
  have HL := hid hb.len
  go_enter Tryd.func39, Tryd.ntmps39
  go_wp2
  go_loop [3, 7] (fun r i => ∃ k : Nat, k ≤ n ∧ i = .int .i64 k ∧ r = .int .u64 (num (l.take k))) (fun _ i => n - (intOf i).toNat)
  case atStart => exact ⟨0, Nat.zero_le _, rfl, by simp [num]⟩
  case round =>
    obtain ⟨k, hk, rfl, rfl⟩ := hrel
    by_cases hlt : k < n
    · obtain ⟨b, off, x, rfl, hbs, hx, hcell⟩ := hb.at hlt
      have HX := hid hx
      clear hx
      go_wp2
      go_round
      case rel =>
        refine ⟨k + 1, by omega, by go_num, ?_⟩
        rw [List.take_add_one, HX.out]
        show _ = Value.int .u64 ((num (l.take k ++ [x]) : Nat) : Int)
        rw [num_snoc, List.length_take, HL.out, Nat.min_eq_left hk]
        congr 1
        have h1 : num (l.take k) < 256 ^ k := by have := num_lt (l.take k); rwa [List.length_take, HL.out, Nat.min_eq_left hk] at this
        have hx := x.toNat_lt
        have h2 : x.toNat * 2 ^ (8 * k) < 18446744073709551616 := by
          have : 2 ^ (8 * k) ≤ 2 ^ 56 := Nat.pow_le_pow_right (by omega) (by omega)
          calc x.toNat * 2 ^ (8 * k) ≤ 255 * 2 ^ 56 := Nat.mul_le_mul (by omega) this
            _ < _ := by decide
        have h3 : (256 : Nat) ^ k < 18446744073709551616 := by
          have : (256 : Nat) ^ k ≤ 256 ^ 7 := Nat.pow_le_pow_right (by omega) (by omega)
          omega
        have e : IntKind.u64.wrap (IntKind.u64.wrap (N8 x) * 2 ^ (8 * k)) = ((x.toNat * 2 ^ (8 * k) : Nat) : Int) := by
          have h4 : IntKind.u64.wrap (N8 x) = ((x.toNat : Nat) : Int) := by
            rw [IntKind.wrap_u64]; unfold N8; exact Int.emod_eq_of_lt (Int.natCast_nonneg _) (by omega)
          have h5 : ((x.toNat : Nat) : Int) * 2 ^ (8 * k) = ((x.toNat * 2 ^ (8 * k) : Nat) : Int) := by
            rw [Int.natCast_mul, Int.natCast_pow]; rfl
          rw [h4, h5, IntKind.wrap_u64]
          exact Int.emod_eq_of_lt (Int.natCast_nonneg _) (Int.ofNat_lt.2 h2)
        rw [e, u64_or_nat _ _ (by omega) h2, or_shift _ _ _ h1]
      case measure => simp [intOf]; omega
    · go_wp2
      rw [List.take_of_length_le (by rw [HL.out]; omega)]
      go_ret
      exact ⟨rfl, rfl⟩
end Go.Proofs.YtlokfndonjldpaaDoor
