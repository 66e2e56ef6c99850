/- The reference of layer 9: its checksum, and the chapter's check value, each walked once. Conditions: the table of remainders is laid. -/
import Derived.Test.YtlokfndonjldpaaDoorSum
set_option linter.unusedSimpArgs false
set_option linter.unusedVariables false
namespace Go.Proofs.YtlokfndonjldpaaDoor
open Go.RowKit

/-- the reference's byte, bit by bit -/
theorem bit_and (x : BitVec 32) : (x &&& 1#32 == 1#32) = x.getLsbD 0 := by
  rw [Bool.eq_iff_iff, beq_iff_eq]
  constructor
  · intro h
    have := congrArg (fun y : BitVec 32 => y.getLsbD 0) h
    simpa using this
  · intro h
    apply BitVec.eq_of_getLsbD_eq
    intro i hi
    rcases Nat.eq_zero_or_pos i with rfl | hp
    · rw [BitVec.getLsbD_and, h]; rfl
    · rw [BitVec.getLsbD_and]
      have : (1#32).getLsbD i = false := by
        have hj : ∀ j : Fin 32, 0 < j.1 → (1#32).getLsbD j.1 = false := by decide
        exact hj ⟨i, hi⟩ hp
      rw [this]; simp
theorem low_yes {y : BitVec 32} (h : y.getLsbD 0 = true) : (N32 (y &&& 1#32) == (1 : Int)) = true := by
  have := bit_and y
  rw [h, beq_iff_eq] at this
  rw [this]; rfl
theorem low_no {y : BitVec 32} (h : y.getLsbD 0 = false) : (N32 (y &&& 1#32) == (1 : Int)) = false := by
  have := bit_and y
  rw [h, ← N32_beq] at this
  exact this
@[go_sem] theorem xor_poly (y : BitVec 32) : bits .xor .u32 (N32 y) 2197175160 = N32 (y ^^^ Crc.poly) := by
  rw [← xor32]; rfl
theorem shN_take (r : BitVec 32) (k : Nat) : Crc.sh (Crc.shN k r) = Crc.shN (k + 1) r := by
  have := Crc.shN_add k 1 r
  rw [this]; rfl
theorem step_any (r : BitVec 32) (b : UInt8) (w : World) :
    Calls Tryd.prog 58 #[.int .u32 (N32 r), .int .u8 (N8 b)] w fun e w' => e = .returned (.int .u32 (N32 (Crc.stepB r b))) ∧ w = w' := by
  go_enter Tryd.func58, Tryd.ntmps58
  go_wp2
  go_loop [0, 5, 6] (fun r' i _ => ∃ k : Nat, k ≤ 8 ∧ i = .int .i64 k ∧ r' = .int .u32 (N32 (Crc.shN k (r ^^^ Crc.wide b)))) (fun _ i _ => 8 - (intOf i).toNat)
  case atStart => exact ⟨0, Nat.zero_le _, rfl, rfl⟩
  case round =>
    obtain ⟨k, hk, rfl, rfl⟩ := hrel
    by_cases hlt : k < 8
    · have HE := hid (shN_take (r ^^^ Crc.wide b) k)
      generalize hy : Crc.shN k (r ^^^ Crc.wide b) = y at *
      clear hy
      cases hbit : y.getLsbD 0
      · have h0 := low_no hbit
        have HB := hid (Crc.sh_even y hbit)
        clear hbit
        go_wp2
        go_round
        case rel => exact ⟨k + 1, by omega, by go_num, val32 (by rw [← HE.out, HB.out])⟩
        case measure => simp [intOf]; omega
      · have h0 := low_yes hbit
        have HB : Hid (Crc.sh y = (y >>> 1) ^^^ Crc.poly) := by
          show Crc.sh y = (y >>> 1) ^^^ Crc.poly
          unfold Crc.sh; rw [hbit]; rfl
        clear hbit
        go_wp2
        go_round
        case rel => exact ⟨k + 1, by omega, by go_num, val32 (by rw [← HE.out, HB.out])⟩
        case measure => simp [intOf]; omega
    · go_wp2
      go_ret
      refine ⟨ret32 ?_, rfl⟩
      rw [show k = 8 from by omega]
      rfl

theorem refSum_any (A : Option Addr) (n c : Nat) (l : List UInt8) (w : World) (hb : RB w A n l) (hc : n ≤ 9223372036854775807) :
    Calls Tryd.prog 51 #[.slice A n c] w fun e w' => e = .returned (.int .u32 (N32 (Crc.crc l))) ∧ w = w' := by
  have HL := hid hb.len
  go_enter Tryd.func51, Tryd.ntmps51
  go_wp2
  go_loop [3, 4] (fun r i => ∃ k : Nat, k ≤ n ∧ i = .int .i64 k ∧ r = .int .u32 (N32 (Crc.run 0xffffffff#32 (l.take k)))) (fun _ i => n - (intOf i).toNat)
  case atStart => exact ⟨0, Nat.zero_le _, rfl, rfl⟩
  case round =>
    obtain ⟨k, hk, rfl, rfl⟩ := hrel
    by_cases hlt : k < n
    · obtain ⟨b, off, x, rfl, hbs, hx, hcell⟩ := hb.at hlt
      have HX := hid hx
      clear hx
      go_wp2_with fail
      refine (step_any _ _ _).mono ?_
      rintro e w' ⟨rfl, rfl⟩
      go_wp2_with fail
      go_round
      case rel => exact ⟨k + 1, by omega, by go_num, val32 (run_take HX.out _)⟩
      case measure => simp [intOf]; omega
    · go_wp2
      go_ret
      refine ⟨ret32 ?_, rfl⟩
      rw [List.take_of_length_le (by rw [HL.out]; omega)]
      rfl

end Go.Proofs.YtlokfndonjldpaaDoor
