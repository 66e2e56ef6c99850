/- The reference of layer 11: checksum, numbers, comparison, each walked once. Conditions: those of each theorem. -/
import Derived.Test.YtanglofabkbllaaDoorSum
import Derived.Test.YtanglofabkbllaaDoorNum
import Derived.Test.YtanglofabkbllaaDoorDiskRW
set_option linter.unusedSimpArgs false
set_option linter.unusedVariables false
namespace Go.Proofs.YtanglofabkbllaaDoor
open Go.RowKit

theorem shN_take (r : BitVec 32) (k : Nat) : Crc.sh (Crc.shN k r) = Crc.shN (k + 1) r := by
  have := Crc.shN_add k 1 r
  rw [this]; rfl
@[go_sem] theorem quo2 (y : BitVec 32) : IntKind.u32.wrap ((N32 y).tdiv (2 : Int)) = N32 (y >>> 1) := by
  rw [IntKind.wrap_u32]
  unfold N32
  rw [BitVec.toNat_ushiftRight, Nat.shiftRight_eq_div_pow]
  have := y.isLt
  have e : (((y.toNat : Nat) : Int)).tdiv 2 = ((y.toNat / 2 : Nat) : Int) := rfl
  rw [e]
  omega
theorem rem2 (y : BitVec 32) : ((N32 y).tmod 2 == (1 : Int)) = y.getLsbD 0 := by
  unfold N32
  have e : (((y.toNat : Nat) : Int)).tmod 2 = ((y.toNat % 2 : Nat) : Int) := rfl
  rw [e, Bool.eq_iff_iff, beq_iff_eq]
  have h1 : y.getLsbD 0 = y.toNat.testBit 0 := rfl
  rw [h1, Nat.testBit_zero, decide_eq_true_iff]
  omega
@[go_sem] theorem xor_poly (y : BitVec 32) : bits .xor .u32 (N32 y) 2197175160 = N32 (y ^^^ Crc.poly) := by
  rw [← xor32]; rfl
@[go_sem] theorem xor_ones (y : BitVec 32) : bits .xor .u32 (N32 y) 4294967295 = N32 (~~~ y) := by
  rw [← BitVec.xor_allOnes, ← xor32]; rfl
theorem refSum_any (A : Option Addr) (n c : Nat) (l : List UInt8) (w : World) (hb : RB w A n l) (hc : n ≤ 9223372036854775807) :
    Calls Tryd.prog 70 #[.slice A n c] w fun e w' => e = .returned (.int .u32 (N32 (Crc.crc l))) ∧ w = w' := by
  have HL := hid hb.len
  go_enter Tryd.func70, Tryd.ntmps70
  go_wp2
  go_loop [3, 4] (fun r i => ∃ k : Nat, k ≤ n ∧ i = .int .i64 k ∧ r = .int .u32 (N32 (Crc.run 0xffffffff#32 (l.take k)))) (fun _ i => n - (intOf i).toNat)
  case atStart => exact ⟨0, Nat.zero_le _, rfl, rfl⟩
  case round =>
    obtain ⟨k, hk, rfl, rfl⟩ := hrel
    by_cases hlt : k < n
    · obtain ⟨b, off, x, rfl, hbs, hx, hcell⟩ := hb.at hlt
      have HX := hid hx
      clear hx
      generalize hr : Crc.run 0xffffffff#32 (l.take k) = r
      have HR := hid hr
      clear hr
      go_wp2
      go_loop [3, 5] (fun r' j => ∃ q : Nat, q ≤ 8 ∧ j = .int .i64 q ∧ r' = .int .u32 (N32 (Crc.shN q (r ^^^ Crc.wide x)))) (fun _ i => 8 - (intOf i).toNat)
      case atStart => exact ⟨0, Nat.zero_le _, rfl, rfl⟩
      case round =>
        obtain ⟨q, hq, rfl, rfl⟩ := hrel
        by_cases hqt : q < 8
        · have HE := hid (shN_take (r ^^^ Crc.wide x) q)
          generalize hy : Crc.shN q (r ^^^ Crc.wide x) = y at *
          clear hy
          cases hbit : y.getLsbD 0
          · have h0 := (rem2 y).trans hbit
            have HB := hid (Crc.sh_even y hbit)
            clear hbit
            go_wp2
            go_round
            case rel => exact ⟨q + 1, by omega, by go_num, val32 (by rw [← HE.out, HB.out])⟩
            case measure => simp [intOf]; omega
          · have h0 := (rem2 y).trans hbit
            have HB : Hid (Crc.sh y = (y >>> 1) ^^^ Crc.poly) := by
              show Crc.sh y = (y >>> 1) ^^^ Crc.poly
              unfold Crc.sh; rw [hbit]; rfl
            clear hbit
            go_wp2
            go_round
            case rel => exact ⟨q + 1, by omega, by go_num, val32 (by rw [← HE.out, HB.out])⟩
            case measure => simp [intOf]; omega
        · obtain rfl : q = 8 := by omega
          have HE : Hid (Crc.shN 8 (r ^^^ Crc.wide x) = Crc.run 0xffffffff#32 (l.take (k + 1))) := by
            show _ = _
            rw [← run_take HX.out, HR.out]; rfl
          generalize Crc.shN 8 (r ^^^ Crc.wide x) = z at *
          go_wp2
          go_round
          case rel => exact ⟨k + 1, by omega, by go_num, val32 HE.out⟩
          case measure => simp [intOf]; omega
    · go_wp2
      go_ret
      refine ⟨ret32 ?_, rfl⟩
      rw [List.take_of_length_le (by rw [HL.out]; omega)]
      rfl

theorem number_ref (A : Option Addr) (n c : Nat) (l : List UInt8) (k : Nat) (w : World) (hb : RB w A n l) (hk : k ≤ n) (h8 : k ≤ 8) (hn : n ≤ 9223372036854775807) :
    Calls Tryd.prog 71 #[.slice A n c, .int .i64 k] w fun e w' => e = .returned (.int .u64 (num (l.take k))) ∧ w = w' := by
  have HL := hid hb.len
  go_enter Tryd.func71, Tryd.ntmps71
  go_wp2
  go_loop [5, 6] (fun r i => ∃ q : Nat, q ≤ k ∧ i = .int .i64 ((q : Int) - 1) ∧ r = .int .u64 (num ((l.take k).drop q))) (fun _ i => (intOf i + 1).toNat)
  case atStart => exact ⟨k, Nat.le_refl _, rfl, by rw [List.drop_of_length_le (by simp; omega)]; rfl⟩
  case round =>
    obtain ⟨q, hq, rfl, rfl⟩ := hrel
    by_cases hlt : 0 < q
    · obtain ⟨q, rfl⟩ : ∃ p, q = p + 1 := ⟨q - 1, by omega⟩
      obtain ⟨b, off, x, rfl, hbs, hx, hcell⟩ := hb.at (show q < n by omega)
      have HX := hid hx
      clear hx
      go_wp2
      go_round
      case rel =>
        refine ⟨q, by omega, rfl, ?_⟩
        have hx : (l.take k)[q]? = some x := by rw [List.getElem?_take, if_pos (by omega)]; exact HX.out
        rw [drop_one hx, num]
        have h1 : num ((l.take k).drop (q + 1)) < 256 ^ 7 := by
          have h2 := num_lt ((l.take k).drop (q + 1))
          have h3 : 256 ^ ((l.take k).drop (q + 1)).length ≤ 256 ^ 7 := Nat.pow_le_pow_right (by omega) (by simp; omega)
          omega
        generalize num ((l.take k).drop (q + 1)) = z at h1 ⊢
        have hb := x.toNat_lt
        congr 1
        rw [IntKind.wrap_u64, IntKind.wrap_u64, IntKind.wrap_u64]
        unfold N8
        omega
      case measure => simp [intOf]
    · obtain rfl : q = 0 := by omega
      go_wp2
      go_ret
      exact ⟨rfl, rfl⟩

theorem same_ref (A B : Option Addr) (n c m d : Nat) (l r : List UInt8) (w : World) (ha : RB w A n l) (hb : RB w B m r) (hn : n ≤ 9223372036854775807) (hm : m ≤ 9223372036854775807) :
    Calls Tryd.prog 72 #[.slice A n c, .slice B m d] w fun e w' => e = .returned (.bool (decide (l = r))) ∧ Below w.heap.size w w' := by
  have HL := hid ha.len
  have HR := hid hb.len
  by_cases hnm : n = m
  · subst hnm
    go_enter Tryd.func72, Tryd.ntmps72
    go_wp2_with fail
    go_loopw [5] (fun i wr => ∃ k : Nat, k ≤ n ∧ i = .int .i64 k ∧ Hid (l.take k = r.take k) ∧ Below w.heap.size w wr) (fun i _ => n - (intOf i).toNat)
    case atStart => exact ⟨0, Nat.zero_le _, rfl, hid rfl, Below.refl _ _⟩
    case round =>
      obtain ⟨k, hk, rfl, HE, hbel⟩ := hrel
      by_cases hlt : k < n
      · obtain ⟨b1, o1, x, rfl, hs1, hx, hc1⟩ := ha.at hlt
        obtain ⟨b2, o2, y, rfl, hs2, hy, hc2⟩ := hb.at hlt
        have HX := hid hx
        have HY := hid hy
        clear hx hy
        have k1 : ∀ z : Ext wr, z.w.cell? ⟨b1, o1 + k, none⟩ = some (.int .u8 (N8 x)) := fun z => Ext.cell ((hbel.cell (by exact hs1)).trans hc1) z
        have k2 : ∀ z : Ext wr, z.w.cell? ⟨b2, o2 + k, none⟩ = some (.int .u8 (N8 y)) := fun z => Ext.cell ((hbel.cell (by exact hs2)).trans hc2) z
        clear hc1 hc2
        by_cases hxy : x = y
        · have ht : (x != y) = false := by rw [hxy]; exact bne_self_eq_false _
          go_wp2_with fail
          refine wp_region_ext (by kernel_rfl) (by kernel_rfl) ?_
          repeat (go_big_quiet_step (fail))
          refine wpQuiet_nil ?_
          rintro _ ⟨z, rfl⟩
          go_wp2_with fail
          go_roundw
          case rel => exact ⟨k + 1, by omega, by go_num, hid (by rw [List.take_add_one, List.take_add_one, HX.out, HY.out, HE.out, hxy]), hbel.trans (z.h.mono hbel.size)⟩
          case measure => simp [intOf]; omega
        · have ht : (x != y) = true := by rw [bne_iff_ne]; exact hxy
          have HN := hid hxy
          clear hxy
          go_wp2_with fail
          refine wp_region_ext (by kernel_rfl) (by kernel_rfl) ?_
          repeat (go_big_quiet_step (fail))
          refine wpQuiet_nil ?_
          rintro _ ⟨z, rfl⟩
          go_wp2_with fail
          have : l ≠ r := fun h => HN.out (by have := HX.out; rw [h, HY.out] at this; exact (Option.some.inj this).symm)
          rw [decide_eq_false this]
          go_ret
          exact ⟨rfl, hbel.trans (z.h.mono hbel.size)⟩
      · obtain rfl : k = n := by omega
        go_wp2_with fail
        have : l = r := by
          have := HE.out
          rwa [List.take_of_length_le (by rw [HL.out]; omega), List.take_of_length_le (by rw [HR.out]; omega)] at this
        rw [decide_eq_true this]
        go_ret
        exact ⟨rfl, hbel⟩
  · have : l ≠ r := fun h => hnm (by rw [← HL.out, h, HR.out])
    rw [decide_eq_false this]
    have hne : ((n : Int) != (m : Int)) = true := by rw [bne_iff_ne]; omega
    have hne2 : ¬ (n : Int) = m := by omega
    go_enter Tryd.func72, Tryd.ntmps72
    go_wp2_with fail
    go_ret
    exact ⟨rfl, Below.refl _ _⟩
end Go.Proofs.YtanglofabkbllaaDoor
