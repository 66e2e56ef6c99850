/- Append and Split of layer 9 and of its reference, and slices.Clone, each walked once. Conditions: the table of remainders is laid; the length has room. -/
import Derived.Test.YtlokfndonjldpaaDoorSum
import Derived.WalkSpells
set_option linter.unusedSimpArgs false
set_option linter.unusedVariables false
namespace Go.Proofs.YtlokfndonjldpaaDoor
open Go.RowKit

@[go_sem] theorem narrow8 (x : BitVec 32) : IntKind.u8.wrap (N32 x) = N8 ⟨x.setWidth 8⟩ := by
  have e : IntKind.u8.wrap (N32 x) = N32 x % 2 ^ 8 := rfl
  rw [e]
  unfold N32 N8
  show _ = ((x.setWidth 8).toNat : Int)
  rw [BitVec.toNat_setWidth]
  omega
theorem clone_any (A : Option Addr) (n c : Nat) (l : List UInt8) (w : World) (hb : RB w A n l) (hn : n ≤ 70368744177664) :
    Calls Tryd.prog 60 #[.slice A n c] w fun e w' => ∃ v, e = .returned v ∧ w'.ownsRow w.heap.size 5 1 v l.length (l.map byV) ∧ Below w.heap.size w w' := by
  have HL := hid hb.len
  have q22 : ∀ (w : World) (a : Option Addr) (n c n' c' : Nat), (binOp .eql 25 (.slice a n c) (.slice none n' c')).run Tryd.prog w = .ok (.bool a.isNone) w := fun w a n c n' c' => Lib.run_eql_slice_nil w _ _ a n c n' c' Tryd.underlying25
  cases A with
  | none =>
    have h0 : n = 0 := by
      rcases Nat.eq_zero_or_pos n with h | h
      · exact h
      · obtain ⟨_, _, h, _⟩ := hb.2 h; cases h
    go_enter Tryd.func60, Tryd.ntmps60
    go_wp2_with fail
    go_ret
    obtain rfl : l = [] := List.eq_nil_of_length_eq_zero (by rw [HL.out, h0])
    exact ⟨_, rfl, World.ownsRow_nil _ _ _ _, Below.refl _ _⟩
  | some ad =>
    have hown : (w.alloc (.cells #[] 5)).ownsRow w.heap.size 5 1 (.slice (some ⟨w.heap.size, 0, none⟩) 0 0) 0 [] := World.ownsRow_made w #[] 0 (Nat.le_refl _) (by unfold maxLen; omega) rfl
    go_enter Tryd.func60, Tryd.ntmps60
    go_wp2_with (at_builtin; refine wp_app _ rfl _ _ 25 rfl w.heap.size 5 _ 1 bytesT _ _ _ hown rfl _ _ _ _ (RB.alloc hb _) rfl (byV_one _) (by unfold maxLen; omega) (by omega) (by simp) ?_; intro v1 w1 hown1 hg1 hat1)
    go_ret
    refine ⟨v1, rfl, ?_, ((Below.refl _ _).alloc (Nat.le_refl _) _).grown hg1 (by simp) (fun k hk => by simp [Value.ownBlock] at hk; omega)⟩
    rw [HL.out]
    simpa using hown1

theorem append_any (A : Option Addr) (n c : Nat) (l : List UInt8) (w : World) (hT : Tab w) (hb : RB w A n l) (hn : n ≤ 70368744177664) :
    Calls Tryd.prog 54 #[.slice A n c] w fun e w' => ∃ v, e = .returned v ∧ w'.ownsRow w.heap.size 5 1 v (sealed l).length ((sealed l).map byV) ∧ Below w.heap.size w w' := by
  have HL := hid hb.len
  go_enter Tryd.func54, Tryd.ntmps54
  go_wp2_with fail
  refine (sum_any _ _ _ l _ hT hb (by omega)).mono ?_
  rintro e w' ⟨rfl, rfl⟩
  go_wp2_with (first
    | (at_make; refine wp_make0 _ rfl _ _ 25 rfl w.heap.size 5 _ 1 bytesT .i64 .i64 _ (n + 4) rfl rfl (by omega) (by omega) (by unfold maxLen; omega) (Nat.le_refl _) ?_; intro w1 hown1 hg1; have hB1 : Below w.heap.size w w1 := (Below.refl _ _).grown hg1 (Nat.le_refl _) (fun k hk => by cases hk))
    | (at_builtin; refine wp_app _ rfl _ _ 25 rfl w.heap.size 5 _ 1 bytesT _ _ _ hown1 rfl _ _ _ _ (hb.below hB1) rfl (byV_one _) (by unfold maxLen; omega) (by omega) hB1.size ?_; intro v2 w2 hown2 hg2 hat2; have hB2 : Below w.heap.size w w2 := hB1.grown hg2 hB1.size (fun k hk => by simp [Value.ownBlock] at hk; omega)))
  go_loopw [4, 5, 15] (fun v _ i wr => ∃ k : Nat, k ≤ 4 ∧ i = .int .i64 k ∧ wr.ownsRow w.heap.size 5 1 v (n + k) ((l ++ (sumBytes (Crc.crc l)).take k).map byV) ∧ Below w.heap.size w wr) (fun _ _ i _ => 4 - (intOf i).toNat)
  case atStart => exact ⟨0, by omega, rfl, by simpa using hown2, hB2⟩
  case round =>
    obtain ⟨k, hk, rfl, hown, hbel⟩ := hrel
    clear hown2 hB2 hown1 hB1 hg1 hg2 hat2
    by_cases hlt : k < 4
    · have HS := hid (sumBytes_at (Crc.crc l) k hlt)
      go_wp2_with (at_builtin; refine wp_app _ rfl _ _ 25 rfl w.heap.size 5 _ 1 bytesT _ _ _ (hown.alloc _) rfl _ 1 1 _ (RL.new wr _ _ _ 1 1 rfl) rfl (one_only rfl) (by unfold maxLen; omega) (by omega) (by have := hbel.size; simp; omega) ?_; intro v3 w3 hown3 hg3 hat3)
      have hB3 : Below w.heap.size w w3 := (hbel.alloc hbel.size _).grown hg3 (by have := hbel.size; simp; omega) (fun g hg => (hown.lt g hg).1)
      go_roundw
      case rel =>
        refine ⟨k + 1, by omega, by go_num, ?_, hB3⟩
        rw [List.take_add_one, HS.out]
        show w3.ownsRow _ _ _ _ (n + k + 1) _
        simpa [List.map_append, byV, byteAt] using hown3
      case measure => simp [intOf]; omega
    · obtain rfl : k = 4 := by omega
      go_wp2_with fail
      go_ret
      refine ⟨_, rfl, ?_, hbel⟩
      rw [sealed_len, HL.out]
      exact hown

/-- the bytes before a correct checksum, if it is correct -/
def unsealed (l : List UInt8) : Option (List UInt8) :=
  if l.length < 4 then none else if l.drop (l.length - 4) = sumBytes (Crc.crc (l.take (l.length - 4))) then some (l.take (l.length - 4)) else none

theorem split_short (A : Option Addr) (n c : Nat) (w : World) (hn : n < 4) :
    Calls Tryd.prog 56 #[.slice A n c] w fun e w' => e = .returned (.tuple #[.slice none 0 0, .int .i64 14]) ∧ w = w' := by
  go_enter Tryd.func56, Tryd.ntmps56
  go_wp2_with fail
  go_ret2
  exact ⟨rfl, rfl⟩

theorem split_bad (A : Option Addr) (m c : Nat) (l : List UInt8) (w : World) (hT : Tab w) (hb : RB w A (m + 4) l) (hc : m + 4 ≤ c) (hm : c ≤ 9223372036854775807) (hbad : l.drop m ≠ sumBytes (Crc.crc (l.take m))) :
    Calls Tryd.prog 56 #[.slice A (m + 4) c] w fun e w' => e = .returned (.tuple #[.slice none 0 0, .int .i64 29]) ∧ Below w.heap.size w w' := by
  have HL := hid hb.len
  have hpre := hb.pre (k := m) (by omega)
  obtain ⟨s, hs⟩ : ∃ s, s = Crc.crc (l.take m) := ⟨_, rfl⟩
  have HB : Hid (l.drop m ≠ sumBytes s) := by rw [hs]; exact hbad
  have HS := hid hs
  clear hbad hs
  go_enter Tryd.func56, Tryd.ntmps56
  go_wp2_with fail
  refine (sum_any _ _ _ (l.take m) _ hT hpre (by omega)).mono ?_
  rintro e w' ⟨rfl, rfl⟩
  rw [← HS.out]
  go_wp2_with fail
  go_loopw [6, 16] (fun _ i wr => ∃ k : Nat, k ≤ 4 ∧ i = .int .i64 k ∧ Hid (∀ j, j < k → (l.drop m)[j]? = (sumBytes s)[j]?) ∧ Below w.heap.size w wr) (fun _ i _ => 4 - (intOf i).toNat)
  case atStart => exact ⟨0, by omega, rfl, (fun j hj => absurd hj (by omega)), Below.refl _ _⟩
  case round =>
    obtain ⟨k, hk, rfl, HJ, hbel⟩ := hrel
    by_cases hlt : k < 4
    · obtain ⟨b, off, x, rfl, hbs, hx, hcell⟩ := hb.at (k := m + k) (by omega)
      have HX := hid hx
      clear hx
      have hcx : ∀ y : Ext wr, y.w.cell? ⟨b, off + (m + k), none⟩ = some (.int .u8 (N8 x)) := fun y => Ext.cell ((hbel.cell (by exact hbs)).trans hcell) y
      clear hcell
      by_cases hxe : x = byteAt s k
      · have ht : (x != (⟨(s >>> (8 * k)).setWidth 8⟩ : UInt8)) = false := by rw [hxe]; exact bne_self_eq_false _
        have HE := hid hxe
        clear hxe
        go_wp2_with fail
        refine wp_region_ext (by kernel_rfl) (by kernel_rfl) ?_
        repeat (go_big_quiet_step (fail))
        refine wpQuiet_nil ?_
        rintro _ ⟨y, rfl⟩
        go_wp2_with fail
        go_roundw
        case rel =>
          refine ⟨k + 1, by omega, by go_num, ?_, hbel.trans (y.h.mono hbel.size)⟩
          intro j hj
          rcases Nat.lt_succ_iff_lt_or_eq.1 hj with h | rfl
          · exact HJ.out j h
          · rw [List.getElem?_drop, HX.out, sumBytes_at s j hlt, HE.out]
        case measure => simp [intOf]; omega
      · have ht : (x != (⟨(s >>> (8 * k)).setWidth 8⟩ : UInt8)) = true := by rw [bne_iff_ne]; exact hxe
        clear hxe
        go_wp2_with fail
        refine wp_region_ext (by kernel_rfl) (by kernel_rfl) ?_
        repeat (go_big_quiet_step (fail))
        refine wpQuiet_nil ?_
        rintro _ ⟨y, rfl⟩
        go_wp2_with fail
        go_ret2
        exact ⟨rfl, hbel.trans (y.h.mono hbel.size)⟩
    · exfalso
      apply HB.out
      obtain rfl : k = 4 := by omega
      apply List.ext_getElem?
      intro j
      rcases Nat.lt_or_ge j 4 with h | h
      · exact HJ.out j h
      · rw [List.getElem?_eq_none (by rw [List.length_drop, HL.out]; omega), List.getElem?_eq_none (by rw [sumBytes_len]; exact h)]

theorem split_good (A : Option Addr) (m c : Nat) (d : List UInt8) (w : World) (hT : Tab w) (hb : RB w A (m + 4) (sealed d)) (hc : m + 4 ≤ c) (hm : m ≤ 70368744177664) (hm2 : c ≤ 9223372036854775807) (hd : d.length = m) :
    Calls Tryd.prog 56 #[.slice A (m + 4) c] w fun e w' => ∃ v, e = .returned (.tuple #[v, .int .i64 0]) ∧ w'.ownsRow w.heap.size 5 1 v d.length (d.map byV) ∧ Below w.heap.size w w' := by
  have hpre : RB w A m d := by
    have h := hb.pre (k := m) (by omega)
    have e : (sealed d).take m = d := by unfold sealed; rw [← hd]; exact List.take_left
    rw [e] at h
    exact h
  have HD := hid hd
  clear hd
  obtain ⟨s, hs⟩ : ∃ s, s = Crc.crc d := ⟨_, rfl⟩
  have HS := hid hs
  clear hs
  go_enter Tryd.func56, Tryd.ntmps56
  go_wp2_with fail
  refine (sum_any _ _ _ d _ hT hpre (by omega)).mono ?_
  rintro e w' ⟨rfl, rfl⟩
  rw [← HS.out]
  go_wp2_with fail
  go_loopw [6, 16] (fun _ i wr => ∃ k : Nat, k ≤ 4 ∧ i = .int .i64 k ∧ Below w.heap.size w wr) (fun _ i _ => 4 - (intOf i).toNat)
  case atStart => exact ⟨0, by omega, rfl, Below.refl _ _⟩
  case round =>
    obtain ⟨k, hk, rfl, hbel⟩ := hrel
    by_cases hlt : k < 4
    · obtain ⟨b, off, x, rfl, hbs, hx, hcell⟩ := hb.at (k := m + k) (by omega)
      have hxe : x = byteAt s k := by
        unfold sealed at hx
        rw [List.getElem?_append_right (by rw [HD.out]; omega), HD.out, Nat.add_sub_cancel_left, ← HS.out, sumBytes_at s k hlt] at hx
        exact (Option.some.inj hx).symm
      have hcx : ∀ y : Ext wr, y.w.cell? ⟨b, off + (m + k), none⟩ = some (.int .u8 (N8 x)) := fun y => Ext.cell ((hbel.cell (by exact hbs)).trans hcell) y
      clear hcell hx
      have ht : (x != (⟨(s >>> (8 * k)).setWidth 8⟩ : UInt8)) = false := by rw [hxe]; exact bne_self_eq_false _
      clear hxe
      go_wp2_with fail
      refine wp_region_ext (by kernel_rfl) (by kernel_rfl) ?_
      repeat (go_big_quiet_step (fail))
      refine wpQuiet_nil ?_
      rintro _ ⟨y, rfl⟩
      go_wp2_with fail
      go_roundw
      case rel => exact ⟨k + 1, by omega, by go_num, hbel.trans (y.h.mono hbel.size)⟩
      case measure => simp [intOf]; omega
    · go_wp2_with fail
      refine (clone_any _ _ _ d _ (hpre.below hbel) (by omega)).mono ?_
      rintro e w' ⟨v, rfl, hown, hb2⟩
      go_wp2_with fail
      go_ret2
      refine ⟨v, rfl, ?_, hbel.trans (hb2.mono hbel.size)⟩
      exact own_base hown hbel.size

/-- a byte string as Go's string -/
abbrev str (l : List UInt8) : Value := .string ⟨l.toArray⟩

end Go.Proofs.YtlokfndonjldpaaDoor
