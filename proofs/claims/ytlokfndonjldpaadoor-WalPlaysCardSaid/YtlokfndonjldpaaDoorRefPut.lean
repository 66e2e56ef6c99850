/- The reference's put, get, pad, walked. Conditions: those of each theorem. -/
import Derived.Test.YtlokfndonjldpaaDoorRefApp
import Derived.Test.YtlokfndonjldpaaDoorLg
import Derived.Test.YtlokfndonjldpaaDoorNum
import Derived.Deep.LoopGhost
set_option linter.unusedSimpArgs false
set_option linter.unusedVariables false
namespace Go.Proofs.YtlokfndonjldpaaDoor
open Go.RowKit

set_option maxRecDepth 100000 in
set_option maxHeartbeats 1000000 in
theorem put_any (base : Nat) (v : Value) (m : Nat) (xs : List Value) (x n : Nat) (w : World) (hown : w.ownsRow base 5 1 v m xs) (hx : x < 18446744073709551616) (hn : n ≤ 8) (hm : m ≤ 1000000) (hbase : base ≤ w.heap.size) :
    Calls Tryd.prog 32 #[v, .int .u64 x, .int .i64 n] w fun e w' => ∃ v', e = .returned v' ∧ w'.ownsRow base 5 1 v' (m + n) (xs ++ (le n x).map byV) ∧ Below base w w' := by
  go_enter Tryd.func32, Tryd.ntmps32
  go_wp2_with fail
  go_loopw [0, 7] (fun b i wr => ∃ k : Nat, k ≤ n ∧ i = .int .i64 k ∧ wr.ownsRow base 5 1 b (m + k) (xs ++ (le k x).map byV) ∧ Below base w wr ∧ base ≤ wr.heap.size) (fun _ i _ => n - (intOf i).toNat)
  case atStart => exact ⟨0, Nat.zero_le _, rfl, by simpa [le] using hown, Below.refl _ _, hbase⟩
  case round =>
    obtain ⟨k, hk, rfl, hown2, hbel, hsz⟩ := hrel
    by_cases hlt : k < n
    · have HE : Hid (le (k + 1) x = le k x ++ [UInt8.ofNat (x / 256 ^ k)]) := hid (le_snoc k x)
      have eb : Hid (byV (UInt8.ofNat (x / 256 ^ k)) = .int .u8 ((x : Int) / 2 ^ (8 * k) % 256)) := hid (byte_val x k)
      clear hown
      go_wp2_with (at_builtin; refine wp_app _ rfl _ _ 25 rfl base 5 _ 1 bytesT _ _ _ (hown2.alloc _) rfl _ 1 1 _ (RL.new wr _ _ _ 1 1 rfl) rfl (one_only rfl) (by unfold maxLen; omega) (by omega) (by simp; omega) ?_; intro v3 w3 hown3 hg3 hat3)
      have hB3 : Below base w w3 := (hbel.alloc hsz _).grown hg3 (by simp; omega) (fun g hg => (hown2.lt g hg).1)
      go_roundw
      case rel =>
        refine ⟨k + 1, by omega, by go_num, ?_, hB3, ?_⟩
        · rw [HE.out, List.map_append, ← List.append_assoc, List.map_cons, eb.out]
          exact hown3
        · have := hg3.size; simp at this; omega
      case measure => simp [intOf]; omega
    · obtain rfl : k = n := by omega
      go_wp2_with fail
      go_ret
      exact ⟨_, rfl, hown2, hbel⟩

theorem num_cons (x : UInt8) (l : List UInt8) : num (x :: l) = x.toNat + 256 * num l := rfl
set_option maxRecDepth 100000 in
set_option maxHeartbeats 1000000 in
theorem get_any (A : Option Addr) (n c : Nat) (l : List UInt8) (at_ k : Nat) (w : World) (hb : RB w A n l) (h : at_ + k ≤ n) (hk : k ≤ 8) (hn : n ≤ 1000000) :
    Calls Tryd.prog 46 #[.slice A n c, .int .i64 at_, .int .i64 k] w fun e w' => e = .returned (.int .u64 (num ((l.drop at_).take k))) ∧ w = w' := by
  have HL := hid hb.len
  go_enter Tryd.func46, Tryd.ntmps46
  go_wp2_with fail
  go_loopw [7, 8] (fun v i wr => ∃ j : Nat, j ≤ k ∧ i = .int .i64 ((j : Int) - 1) ∧ v = .int .u64 (num ((l.drop (at_ + j)).take (k - j))) ∧ wr = w) (fun _ i _ => (intOf i + 1).toNat)
  case atStart => exact ⟨k, Nat.le_refl _, rfl, by rw [Nat.sub_self]; rfl, rfl⟩
  case round =>
    obtain ⟨j, hj, rfl, rfl, rfl⟩ := hrel
    by_cases h0 : 0 < j
    · obtain ⟨q, rfl⟩ : ∃ q, j = q + 1 := ⟨j - 1, by omega⟩
      obtain ⟨b, off, x, rfl, hbs, hx, hcell⟩ := hb.at (k := at_ + q) (by omega)
      have hr : (l.drop (at_ + q)).take (k - q) = x :: (l.drop (at_ + (q + 1))).take (k - (q + 1)) := by
        obtain ⟨hlt, he⟩ := List.getElem?_eq_some_iff.1 hx
        rw [List.drop_eq_getElem_cons hlt, he, show k - q = (k - (q + 1)) + 1 by omega, List.take_succ_cons, Nat.add_assoc]
      have HR := hid hr
      have hv : num ((l.drop (at_ + (q + 1))).take (k - (q + 1))) < 256 ^ 7 := by
        have h1 := num_lt ((l.drop (at_ + (q + 1))).take (k - (q + 1)))
        have h2 : 256 ^ ((l.drop (at_ + (q + 1))).take (k - (q + 1))).length ≤ 256 ^ 7 := Nat.pow_le_pow_right (by omega) (by simp; omega)
        omega
      clear hr hx
      obtain ⟨v, hvv⟩ : ∃ z, num ((l.drop (at_ + (q + 1))).take (k - (q + 1))) = z := ⟨_, rfl⟩
      rw [hvv] at hv
      have HV := hid hvv
      simp only [hvv]
      clear hvv
      simp only [show (((q + 1 : Nat) : Int) - 1) = (q : Int) by omega]
      have hx8 := x.toNat_lt
      have e1 : IntKind.u64.wrap ((v : Int) * 256) = ((v * 256 : Nat) : Int) := by rw [IntKind.wrap_u64]; omega
      have e2 : IntKind.u64.wrap (N8 x) = ((x.toNat : Nat) : Int) := by rw [IntKind.wrap_u64]; unfold N8; omega
      go_wp2_with fail
      have eo : bits BinOp.or IntKind.u64 ((v : Int) * 256) (x.toNat : Int) = ((x.toNat + 256 * v : Nat) : Int) := by
        have h1 := u64_or_nat (v * 256) x.toNat (by omega) (by omega)
        have h2 : v * 256 ||| x.toNat = x.toNat + 256 * v := by
          have h3 := Nat.two_pow_add_eq_or_of_lt (i := 8) (show x.toNat < 2 ^ 8 by omega) v
          rw [show v * 256 = 2 ^ 8 * v by omega, ← h3]
          omega
        rw [h2] at h1
        rw [← h1]
        rfl
      go_roundw
      case rel => exact ⟨q, by omega, rfl, by rw [eo, HR.out, num_cons, HV.out], trivial⟩
      case measure => simp [intOf]
    · obtain rfl : j = 0 := by omega
      go_wp2_with fail
      go_ret
      exact ⟨rfl, rfl⟩

/-- zeros up to whole sectors -/
def padB (l : List UInt8) : List UInt8 := l ++ zeroB ((128 - l.length % 128) % 128)
set_option maxRecDepth 100000 in
set_option maxHeartbeats 1000000 in
theorem pad_any (base : Nat) (v : Value) (m : Nat) (l : List UInt8) (w : World) (hown : w.ownsRow base 5 1 v m (l.map byV)) (hl : l.length = m) (hm : m ≤ 1000000) (hbase : base ≤ w.heap.size) :
    Calls Tryd.prog 33 #[v] w fun e w' => ∃ v', e = .returned v' ∧ w'.ownsRow base 5 1 v' (padB l).length ((padB l).map byV) ∧ Below base w w' := by
  obtain ⟨T, hT⟩ : ∃ z, m + (128 - m % 128) % 128 = z := ⟨_, rfl⟩
  have hTm : T % 128 = 0 := by omega
  have hT1 : m ≤ T := by omega
  have hT2 : T < m + 128 := by omega
  have HPl : Hid (padB l = l ++ zeroB (T - m)) := by
    show _ = _
    unfold padB
    rw [hl, ← hT]
    congr 2
    omega
  have HL := hid hl
  clear hT hl
  obtain ⟨A, c, rfl, _, _, _⟩ := own_form hown
  go_enter Tryd.func33, Tryd.ntmps33
  go_wp2_with fail
  go_loopg [0] (T - m) (fun gh b wr => ∃ (k : Nat) (A : Option Addr) (c : Nat), gh + k = T - m ∧ b = .slice A (m + k) c ∧ wr.ownsRow base 5 1 (.slice A (m + k) c) (m + k) ((l ++ zeroB k).map byV) ∧ Below base w wr ∧ base ≤ wr.heap.size)
  case atStart => exact ⟨0, A, c, by omega, rfl, by simpa [zeroB] using hown, Below.refl _ _, hbase⟩
  case round =>
    obtain ⟨k, A, c, hk, rfl, hown2, hbel, hsz⟩ := hrel
    clear hown
    by_cases hlt : 0 < gk
    · have t1 : (((m : Int) + (k : Int)).tmod 128 != 0) = true := by rw [bne_iff_ne, Int.tmod_eq_emod_of_nonneg (by omega)]; omega
      have t2 : (((m : Int) + (k : Int)) % 128 != 0) = true := by rw [bne_iff_ne]; omega
      go_wp2_with (at_builtin; refine wp_app _ rfl _ _ 25 rfl base 5 _ 1 bytesT _ _ _ (hown2.alloc _) rfl _ 1 1 _ (RL.new wr _ _ _ 1 1 rfl) rfl (one_only rfl) (by unfold maxLen; omega) (by omega) (by simp; omega) ?_; intro v3 w3 hown3 hg3 hat3)
      have hB3 : Below base w w3 := (hbel.alloc hsz _).grown hg3 (by simp; omega) (fun g hg => (hown2.lt g hg).1)
      have ez : List.map byV (l ++ zeroB k) ++ [Value.int .u8 0] = (l ++ zeroB (k + 1)).map byV := by
        unfold zeroB
        rw [List.replicate_succ', ← List.append_assoc, List.map_append (l₁ := l ++ List.replicate k 0)]
        rfl
      have hown4 : w3.ownsRow base 5 1 v3 (m + k + 1) ((l ++ zeroB (k + 1)).map byV) := by rw [← ez]; exact hown3
      obtain ⟨A3, c3, rfl, _, _, _⟩ := own_form hown4
      clear ez hown3
      go_roundg (gk - 1)
      case measure => omega
      case rel => exact ⟨k + 1, A3, c3, by omega, rfl, hown4, hB3, by have := hg3.size; simp at this; omega⟩
    · obtain rfl : gk = 0 := by omega
      have t1 : (((m : Int) + (k : Int)).tmod 128 != 0) = false := by rw [bne_eq_false_iff_eq, Int.tmod_eq_emod_of_nonneg (by omega)]; omega
      have t2 : (((m : Int) + (k : Int)) % 128 != 0) = false := by rw [bne_eq_false_iff_eq]; omega
      go_wp2_with fail
      go_ret
      refine ⟨_, rfl, ?_, hbel⟩
      rw [HPl.out, List.length_append, zeroB_len, HL.out, ← hk, Nat.zero_add]
      exact hown2
end Go.Proofs.YtlokfndonjldpaaDoor
