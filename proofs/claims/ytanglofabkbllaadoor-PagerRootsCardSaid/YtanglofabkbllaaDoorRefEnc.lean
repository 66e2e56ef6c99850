/- The reference's encoding of a page, walked. Conditions: those of each theorem. -/
import Derived.Test.YtanglofabkbllaaDoorRefSum
import Derived.Test.YtanglofabkbllaaDoorApp
set_option linter.unusedSimpArgs false
set_option linter.unusedVariables false
namespace Go.Proofs.YtanglofabkbllaaDoor
open Go.RowKit

theorem little_any (base : Nat) (v : Value) (m : Nat) (xs : List Value) (x n : Nat) (w : World) (hown : w.ownsRow base 5 1 v m xs) (hx : x < 18446744073709551616) (hn : n ≤ 8) (hm : m ≤ 1000000) (hbase : base ≤ w.heap.size) :
    Calls Tryd.prog 80 #[v, .int .u64 x, .int .i64 n] w fun e w' => ∃ v', e = .returned v' ∧ w'.ownsRow base 5 1 v' (m + n) (xs ++ (le n x).map byV) ∧ Below base w w' := by
  go_enter Tryd.func80, Tryd.ntmps80
  go_wp2_with fail
  go_loopw [0, 1, 7] (fun b y i wr => ∃ k : Nat, k ≤ n ∧ i = .int .i64 k ∧ y = .int .u64 ((x / 256 ^ k : Nat) : Int) ∧ wr.ownsRow base 5 1 b (m + k) (xs ++ (le k x).map byV) ∧ Below base w wr ∧ base ≤ wr.heap.size) (fun _ _ i _ => n - (intOf i).toNat)
  case atStart => exact ⟨0, Nat.zero_le _, rfl, by simp, by simpa [le] using hown, Below.refl _ _, hbase⟩
  case round =>
    obtain ⟨k, hk, rfl, rfl, hown2, hbel, hsz⟩ := hrel
    by_cases hlt : k < n
    · have hy : x / 256 ^ k < 18446744073709551616 := Nat.lt_of_le_of_lt (Nat.div_le_self _ _) hx
      have e1 : x / 256 ^ (k + 1) = x / 256 ^ k / 256 := by rw [Nat.div_div_eq_div_mul, Nat.pow_succ]
      have e2 : UInt8.ofNat (x / 256 ^ k) = UInt8.ofNat (x / 256 ^ k % 256) := by apply UInt8.toNat_inj.1; simp
      have HE : Hid (le (k + 1) x = le k x ++ [UInt8.ofNat (x / 256 ^ k % 256)]) := by
        show _ = _
        rw [le_snoc, e2]
      generalize hyy : x / 256 ^ k = y at *
      clear hown
      go_wp2_with (at_builtin; refine wp_app _ rfl _ _ 40 rfl base 5 _ 1 bytesT _ _ _ (hown2.alloc _) rfl _ 1 1 _ (RL.new wr _ _ _ 1 1 rfl) rfl (one_only rfl) (by unfold maxLen; omega) (by omega) (by simp; omega) ?_; intro v3 w3 hown3 hg3 hat3)
      have hB3 : Below base w w3 := (hbel.alloc hsz _).grown hg3 (by simp; omega) (fun g hg => (hown2.lt g hg).1)
      have eb : byV (UInt8.ofNat (y % 256)) = .int .u8 ((y : Int) % 256) := by unfold byV N8; congr 1; simp
      go_roundw
      case rel =>
        refine ⟨k + 1, by omega, by go_num, by rw [e1]; rfl, ?_, hB3, ?_⟩
        · rw [HE.out, List.map_append, ← List.append_assoc, List.map_cons, eb]
          exact hown3
        · have := hg3.size; simp at this; omega
      case measure => simp [intOf]; omega
    · obtain rfl : k = n := by omega
      go_wp2_with fail
      go_ret
      exact ⟨_, rfl, hown2, hbel⟩
@[go_sem] theorem wide64 (x : BitVec 32) : IntKind.u64.wrap (N32 x) = ((x.toNat : Nat) : Int) := by
  have := x.isLt
  rw [IntKind.wrap_u64]
  unfold N32
  omega
theorem sumBytes_le (s : BitVec 32) : sumBytes s = le 4 s.toNat := by
  have h : ∀ k, byteAt s k = UInt8.ofNat (s.toNat / 256 ^ k) := fun k => by
    unfold byteAt
    apply UInt8.toNat_inj.1
    show ((s >>> (8 * k)).setWidth 8).toNat = _
    rw [BitVec.toNat_setWidth, BitVec.toNat_ushiftRight, Nat.shiftRight_eq_div_pow, Nat.pow_mul]
    simp
  apply List.ext_getElem?
  intro i
  rcases Nat.lt_or_ge i 4 with hi | hi
  · rw [sumBytes_at s i hi, le_at 4 _ i hi, h]
  · rw [List.getElem?_eq_none (by rw [sumBytes_len]; exact hi), List.getElem?_eq_none (by simp; exact hi)]
theorem seal_any (A : Option Addr) (n c : Nat) (l : List UInt8) (w : World) (hb : RB w A n l) (hn : 1020 ≤ n) (hc : n ≤ c) (hm : c ≤ 9223372036854775807) :
    Calls Tryd.prog 81 #[.slice A n c] w fun e w' => ∃ v, e = .returned v ∧ w'.ownsRow w.heap.size 5 1 v 1024 ((sealed (l.take 1020)).map byV) ∧ Below w.heap.size w w' := by
  have hpre : RB w A 1020 (l.take 1020) := hb.pre hn
  go_enter Tryd.func81, Tryd.ntmps81
  go_wp2_with (at_builtin; refine wp_app _ rfl _ _ 40 rfl w.heap.size 5 _ 1 bytesT _ _ _ (World.ownsRow_nil _ _ _ _) rfl _ _ _ _ hpre rfl (byV_one _) (by unfold maxLen; omega) (by omega) (Nat.le_refl _) ?_; intro v1 w1 hown1 hg1 hat1)
  obtain ⟨A1, k1, rfl, hr1, hc1, hm1⟩ := own_form hown1
  have hB1 : Below w.heap.size w w1 := (Below.refl _ _).grown hg1 (Nat.le_refl _) (fun k hk => by cases hk)
  refine (refSum_any A1 _ k1 (l.take 1020) w1 hr1 (by omega)).mono ?_
  rintro e w' ⟨rfl, rfl⟩
  go_wp2_with fail
  refine (little_any w.heap.size _ _ _ (Crc.crc (l.take 1020)).toNat 4 _ hown1 (by have := (Crc.crc (l.take 1020)).isLt; omega) (by omega) (by omega) hB1.size).mono ?_
  rintro e w' ⟨v, rfl, hown2, hB2⟩
  go_wp2_with fail
  go_ret
  refine ⟨_, rfl, ?_, hB1.trans hB2⟩
  unfold sealed
  rw [sumBytes_le, List.map_append]
  simpa using hown2
end Go.Proofs.YtanglofabkbllaaDoor
