/- The functions of layer 9 and of its reference, each walked once. Conditions: the table of remainders is laid. -/
import Derived.Test.YtlokfndonjldpaaDoorBy
import Derived.Test.YtlokfndonjldpaaDoorCrc
import Derived.Test.YtlokfndonjldpaaDoorMem
import Derived.Lib.SlBytesConst
set_option linter.unusedSimpArgs false
set_option linter.unusedVariables false
namespace Go.Proofs.YtlokfndonjldpaaDoor
open Go.RowKit

def Tab (w : World) : Prop := ∀ i, i < 16 → w.cell? ⟨0, i, none⟩ = some (.int .u32 (N32 (Crc.tab.getD i 0#32)))
theorem Tab.look {w : World} (h : Tab w) (x : BitVec 32) : w.cell? ⟨0, (N32 (x &&& 15#32)).toNat, none⟩ = some (.int .u32 (N32 (Crc.tabAt (x &&& 15#32)))) := by
  have := idx15 x
  have h0 := N32_lo (x &&& 15#32)
  rw [h _ (by omega)]
  unfold Crc.tabAt
  rfl
theorem Tab.below {w w' : World} {B : Nat} (h : Tab w) (hb : Below B w w') (hB : 0 < B) : Tab w' := fun i hi => (hb.cell hB).trans (h i hi)
theorem Tab.pos {w : World} (h : Tab w) : 0 < w.heap.size := World.block_lt_of_cell? w _ (h 0 (by omega))
theorem Tab.keep {w w' : World} (h : Tab w) (hb : Below w.heap.size w w') : Tab w' := h.below hb h.pos
theorem Tab.drew {w : World} (h : Tab w) : Tab w.drew := h
theorem Tab.alloc {w : World} (h : Tab w) (o : Obj) : Tab (w.alloc o) := h.keep ((Below.refl _ _).alloc (Nat.le_refl _) _)

@[go_sem] theorem wideN (b : UInt8) : IntKind.u32.wrap (N8 b) = N32 (Crc.wide b) := by
  rw [wrap_u32 _ (N8_lo _) (by have := N8_hi b; omega)]
  unfold N8 N32 Crc.wide
  rw [wide_toNat]
@[go_sem] theorem xorw (x : BitVec 32) (b : UInt8) : bits .xor .u32 (N32 x) (N8 b) = N32 (x ^^^ Crc.wide b) := by
  rw [← xor32]
  unfold N8 N32 Crc.wide
  rw [wide_toNat]
theorem ret32 {a b : BitVec 32} (h : a = b) : Ending.returned (.int .u32 (N32 a)) = .returned (.int .u32 (N32 b)) := by rw [h]
theorem val32 {a b : BitVec 32} (h : a = b) : Value.int .u32 (N32 a) = .int .u32 (N32 b) := by rw [h]
theorem run_take {l : List UInt8} {k : Nat} {x : UInt8} (h : l[k]? = some x) (r : BitVec 32) : Crc.stepB (Crc.run r (l.take k)) x = Crc.run r (l.take (k + 1)) := by
  rw [← Crc.run_snoc]
  congr 1
  rw [List.take_add_one, h]; rfl

theorem up_any (s : BitVec 32) (A : Option Addr) (n c : Nat) (l : List UInt8) (w : World) (hT : Tab w) (hb : RB w A n l) (hc : n ≤ 9223372036854775807) :
    Calls Tryd.prog 61 #[.int .u32 (N32 s), .slice A n c] w fun e w' => e = .returned (.int .u32 (N32 (Crc.upd s l))) ∧ w = w' := by
  have HL := hid hb.len
  go_enter Tryd.func61, Tryd.ntmps61
  go_wp2
  go_loop [5, 12] (fun r i => ∃ k : Nat, k ≤ n ∧ i = .int .i64 k ∧ r = .int .u32 (N32 (Crc.run (~~~ s) (l.take k)))) (fun _ i => n - (intOf i).toNat)
  case atStart => exact ⟨0, Nat.zero_le _, rfl, rfl⟩
  case round =>
    obtain ⟨k, hk, rfl, rfl⟩ := hrel
    by_cases hlt : k < n
    · obtain ⟨b, off, x, rfl, hbs, hx, hcell⟩ := hb.at hlt
      have hL := hT.look
      have HX := hid hx
      clear hx
      go_wp2
      go_round
      case rel => exact ⟨k + 1, by omega, by go_num, val32 (by rw [Crc.byte_tab]; exact run_take HX.out _)⟩
      case measure => simp [intOf]; omega
    · go_wp2
      go_ret
      refine ⟨ret32 ?_, rfl⟩
      rw [List.take_of_length_le (by rw [HL.out]; omega)]
      rfl

theorem sum_any (A : Option Addr) (n c : Nat) (l : List UInt8) (w : World) (hT : Tab w) (hb : RB w A n l) (hc : n ≤ 9223372036854775807) :
    Calls Tryd.prog 59 #[.slice A n c] w fun e w' => e = .returned (.int .u32 (N32 (Crc.crc l))) ∧ w = w' := by
  have hz : (0 : Int) = N32 0#32 := rfl
  go_enter Tryd.func59, Tryd.ntmps59
  go_wp2_with fail
  refine (up_any 0#32 _ _ _ l _ hT hb hc).mono ?_
  rintro e w' ⟨rfl, rfl⟩
  go_wp2_with fail
  go_ret
  exact ⟨rfl, rfl⟩

end Go.Proofs.YtlokfndonjldpaaDoor
