/- The functions of layer 9 and of its reference, each walked once. Conditions: the table of remainders is laid. -/
import Derived.Test.YtdclpabfnfmikaaDoorRows
import Derived.Test.YtdclpabfnfmikaaDoorCrc
import Derived.Test.YtdclpabfnfmikaaDoorMem
import Derived.Lib.SlBytesConst
set_option linter.unusedSimpArgs false
set_option linter.unusedVariables false
namespace Go.Proofs.YtdclpabfnfmikaaDoor
open Go.RowKit

theorem bytesT : OneC Tryd.prog 22 5 (.int .u8 0) 1 :=
  ⟨Tryd.underlying22, info_parts (by kernel_rfl : (Tryd.prog.info? 5).map (fun i => (i.zero, i.size, i.bytes)) = some (some (.int .u8 0), 1, 1)), rfl⟩

def Tab (w : World) : Prop := ∀ i, i < 16 → w.cell? ⟨0, i, none⟩ = some (.int .u32 (N32 (Crc.tab.getD i 0#32)))
theorem Tab.look {w : World} (h : Tab w) (x : BitVec 32) : w.cell? ⟨0, (N32 (x &&& 15#32)).toNat, none⟩ = some (.int .u32 (N32 (Crc.tabAt (x &&& 15#32)))) := by
  have := idx15 x
  have h0 := N32_lo (x &&& 15#32)
  rw [h _ (by omega)]
  unfold Crc.tabAt
  rfl
theorem Tab.below {w w' : World} {B : Nat} (h : Tab w) (hb : Below B w w') (hB : 0 < B) : Tab w' := fun i hi => (hb.cell hB).trans (h i hi)
theorem Tab.pos {w : World} (h : Tab w) : 0 < w.heap.size := World.block_lt_of_cell? w _ (h 0 (by omega))
theorem Tab.keep {w w' : World} (h : Tab w) (hb : Below w.heap.size w w') : Tab w' := h.below hb h.pos
theorem Tab.drew {w : World} (h : Tab w) : Tab w.drew := h
theorem Tab.alloc {w : World} (h : Tab w) (o : Obj) : Tab (w.alloc o) := h.keep ((Below.refl _ _).alloc (Nat.le_refl _) _)

@[go_sem] theorem wideN (b : UInt8) : IntKind.u32.wrap (N8 b) = N32 (Crc.wide b) := by
  rw [wrap_u32 _ (N8_lo _) (by have := N8_hi b; omega)]
  unfold N8 N32 Crc.wide
  rw [wide_toNat]
@[go_sem] theorem xorw (x : BitVec 32) (b : UInt8) : bits .xor .u32 (N32 x) (N8 b) = N32 (x ^^^ Crc.wide b) := by
  rw [← xor32]
  unfold N8 N32 Crc.wide
  rw [wide_toNat]
theorem ret32 {a b : BitVec 32} (h : a = b) : Ending.returned (.int .u32 (N32 a)) = .returned (.int .u32 (N32 b)) := by rw [h]
theorem val32 {a b : BitVec 32} (h : a = b) : Value.int .u32 (N32 a) = .int .u32 (N32 b) := by rw [h]
theorem run_take {l : List UInt8} {k : Nat} {x : UInt8} (h : l[k]? = some x) (r : BitVec 32) : Crc.stepB (Crc.run r (l.take k)) x = Crc.run r (l.take (k + 1)) := by
  rw [← Crc.run_snoc]
  congr 1
  rw [List.take_add_one, h]; rfl

theorem up_any (s : BitVec 32) (A : Option Addr) (n c : Nat) (l : List UInt8) (w : World) (hT : Tab w) (hb : RB w A n l) (hc : n ≤ 9223372036854775807) :
    Calls Tryd.prog 12 #[.int .u32 (N32 s), .slice A n c] w fun e w' => e = .returned (.int .u32 (N32 (Crc.upd s l))) ∧ w = w' := by
  have HL := hid hb.len
  go_enter Tryd.func12, Tryd.ntmps12
  go_wp2
  go_loop [5, 12] (fun r i => ∃ k : Nat, k ≤ n ∧ i = .int .i64 k ∧ r = .int .u32 (N32 (Crc.run (~~~ s) (l.take k)))) (fun _ i => n - (intOf i).toNat)
  case atStart => exact ⟨0, Nat.zero_le _, rfl, rfl⟩
  case round =>
    obtain ⟨k, hk, rfl, rfl⟩ := hrel
    by_cases hlt : k < n
    · obtain ⟨b, off, x, rfl, hbs, hx, hcell⟩ := hb.at hlt
      have hL := hT.look
      have HX := hid hx
      clear hx
      go_wp2
      go_round
      case rel => exact ⟨k + 1, by omega, by go_num, val32 (by rw [Crc.byte_tab]; exact run_take HX.out _)⟩
      case measure => simp [intOf]; omega
    · go_wp2
      go_ret
      refine ⟨ret32 ?_, rfl⟩
      rw [List.take_of_length_le (by rw [HL.out]; omega)]
      rfl

theorem sum_any (A : Option Addr) (n c : Nat) (l : List UInt8) (w : World) (hT : Tab w) (hb : RB w A n l) (hc : n ≤ 9223372036854775807) :
    Calls Tryd.prog 11 #[.slice A n c] w fun e w' => e = .returned (.int .u32 (N32 (Crc.crc l))) ∧ w = w' := by
  have hz : (0 : Int) = N32 0#32 := rfl
  go_enter Tryd.func11, Tryd.ntmps11
  go_wp2_with fail
  refine (up_any 0#32 _ _ _ l _ hT hb hc).mono ?_
  rintro e w' ⟨rfl, rfl⟩
  go_wp2_with fail
  go_ret
  exact ⟨rfl, rfl⟩

/-- the reference's byte, bit by bit -/
theorem bit_and (x : BitVec 32) : (x &&& 1#32 == 1#32) = x.getLsbD 0 := by
  rw [Bool.eq_iff_iff, beq_iff_eq]
  constructor
  · intro h
    have := congrArg (fun y : BitVec 32 => y.getLsbD 0) h
    simpa using this
  · intro h
    apply BitVec.eq_of_getLsbD_eq
    intro i hi
    rcases Nat.eq_zero_or_pos i with rfl | hp
    · rw [BitVec.getLsbD_and, h]; rfl
    · rw [BitVec.getLsbD_and]
      have : (1#32).getLsbD i = false := by
        have hj : ∀ j : Fin 32, 0 < j.1 → (1#32).getLsbD j.1 = false := by decide
        exact hj ⟨i, hi⟩ hp
      rw [this]; simp
theorem low_yes {y : BitVec 32} (h : y.getLsbD 0 = true) : (N32 (y &&& 1#32) == (1 : Int)) = true := by
  have := bit_and y
  rw [h, beq_iff_eq] at this
  rw [this]; rfl
theorem low_no {y : BitVec 32} (h : y.getLsbD 0 = false) : (N32 (y &&& 1#32) == (1 : Int)) = false := by
  have := bit_and y
  rw [h, ← N32_beq] at this
  exact this
@[go_sem] theorem xor_poly (y : BitVec 32) : bits .xor .u32 (N32 y) 2197175160 = N32 (y ^^^ Crc.poly) := by
  rw [← xor32]; rfl
theorem shN_take (r : BitVec 32) (k : Nat) : Crc.sh (Crc.shN k r) = Crc.shN (k + 1) r := by
  have := Crc.shN_add k 1 r
  rw [this]; rfl
theorem step_any (r : BitVec 32) (b : UInt8) (w : World) :
    Calls Tryd.prog 17 #[.int .u32 (N32 r), .int .u8 (N8 b)] w fun e w' => e = .returned (.int .u32 (N32 (Crc.stepB r b))) ∧ w = w' := by
  go_enter Tryd.func17, Tryd.ntmps17
  go_wp2
  go_loop [0, 5, 6] (fun r' i _ => ∃ k : Nat, k ≤ 8 ∧ i = .int .i64 k ∧ r' = .int .u32 (N32 (Crc.shN k (r ^^^ Crc.wide b)))) (fun _ i _ => 8 - (intOf i).toNat)
  case atStart => exact ⟨0, Nat.zero_le _, rfl, rfl⟩
  case round =>
    obtain ⟨k, hk, rfl, rfl⟩ := hrel
    by_cases hlt : k < 8
    · have HE := hid (shN_take (r ^^^ Crc.wide b) k)
      generalize hy : Crc.shN k (r ^^^ Crc.wide b) = y at *
      clear hy
      cases hbit : y.getLsbD 0
      · have h0 := low_no hbit
        have HB := hid (Crc.sh_even y hbit)
        clear hbit
        go_wp2
        go_round
        case rel => exact ⟨k + 1, by omega, by go_num, val32 (by rw [← HE.out, HB.out])⟩
        case measure => simp [intOf]; omega
      · have h0 := low_yes hbit
        have HB : Hid (Crc.sh y = (y >>> 1) ^^^ Crc.poly) := by
          show Crc.sh y = (y >>> 1) ^^^ Crc.poly
          unfold Crc.sh; rw [hbit]; rfl
        clear hbit
        go_wp2
        go_round
        case rel => exact ⟨k + 1, by omega, by go_num, val32 (by rw [← HE.out, HB.out])⟩
        case measure => simp [intOf]; omega
    · go_wp2
      go_ret
      refine ⟨ret32 ?_, rfl⟩
      rw [show k = 8 from by omega]
      rfl

theorem refSum_any (A : Option Addr) (n c : Nat) (l : List UInt8) (w : World) (hb : RB w A n l) (hc : n ≤ 9223372036854775807) :
    Calls Tryd.prog 10 #[.slice A n c] w fun e w' => e = .returned (.int .u32 (N32 (Crc.crc l))) ∧ w = w' := by
  have HL := hid hb.len
  go_enter Tryd.func10, Tryd.ntmps10
  go_wp2
  go_loop [3, 4] (fun r i => ∃ k : Nat, k ≤ n ∧ i = .int .i64 k ∧ r = .int .u32 (N32 (Crc.run 0xffffffff#32 (l.take k)))) (fun _ i => n - (intOf i).toNat)
  case atStart => exact ⟨0, Nat.zero_le _, rfl, rfl⟩
  case round =>
    obtain ⟨k, hk, rfl, rfl⟩ := hrel
    by_cases hlt : k < n
    · obtain ⟨b, off, x, rfl, hbs, hx, hcell⟩ := hb.at hlt
      have HX := hid hx
      clear hx
      go_wp2_with fail
      refine (step_any _ _ _).mono ?_
      rintro e w' ⟨rfl, rfl⟩
      go_wp2_with fail
      go_round
      case rel => exact ⟨k + 1, by omega, by go_num, val32 (run_take HX.out _)⟩
      case measure => simp [intOf]; omega
    · go_wp2
      go_ret
      refine ⟨ret32 ?_, rfl⟩
      rw [List.take_of_length_le (by rw [HL.out]; omega)]
      rfl

theorem crc_check : Crc.crc [49, 50, 51, 52, 53, 54, 55, 56, 57] = 3808858755#32 := by decide +kernel
theorem awake_any (w : World) (hT : Tab w) :
    Calls Tryd.prog 9 #[] w fun e w' => e = .returned (.bool true) ∧ Below w.heap.size w w' := by
  have kc := fun (w : World) (C : Array Value) (n c : Nat) => Lib.run_convert_bytes_const (P := Tryd.prog) w 22 5 C n c Tryd.underlying22 Tryd.underlying5
  go_enter Tryd.func9, Tryd.ntmps9
  go_wp2_with fail
  refine (sum_any _ _ _ [49, 50, 51, 52, 53, 54, 55, 56, 57] _ (hT.alloc _) (RL.new w _ _ _ 1 9 rfl) (by omega)).mono ?_
  rintro e w' ⟨rfl, rfl⟩
  rw [crc_check]
  have hb : (N32 3808858755#32 == (3808858755 : Int)) = true := rfl
  go_wp2_with fail
  go_ret
  exact ⟨rfl, (Below.refl _ _).alloc (Nat.le_refl _) _⟩
end Go.Proofs.YtdclpabfnfmikaaDoor
