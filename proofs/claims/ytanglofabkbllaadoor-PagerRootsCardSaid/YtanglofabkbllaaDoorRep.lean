/- bytes.Repeat of one byte, walked, with what it calls. Conditions: the count is small. -/
import Derived.Test.YtanglofabkbllaaDoorBy
import Derived.Test.YtanglofabkbllaaDoorStep
import Derived.Lib.MakeNoZero
import Derived.Laws.BitsAllLaws
set_option linter.unusedSimpArgs false
set_option linter.unusedVariables false
namespace Go.Proofs.YtanglofabkbllaaDoor
open Go.RowKit

theorem ofNat64 (n : Nat) : BitVec.ofInt 64 (n : Int) = BitVec.ofNat 64 n := by
  rw [BitVec.ofInt_natCast]
theorem and64_32 (n : Nat) (h : n < 4294967296) : bits .and .u64 (n : Int) 4294967295 = n := by
  show IntKind.u64.wrap ((BitVec.ofInt 64 (n : Int) &&& BitVec.ofInt 64 4294967295).toNat : Int) = _
  have e : (BitVec.ofInt 64 (n : Int) &&& BitVec.ofInt 64 4294967295).toNat = n := by
    rw [ofNat64, BitVec.toNat_and, BitVec.toNat_ofNat, Nat.mod_eq_of_lt (by omega), show (BitVec.ofInt 64 4294967295).toNat = 2 ^ 32 - 1 by decide, Nat.and_two_pow_sub_one_eq_mod]
    omega
  rw [e]
  have e2 : IntKind.u64.wrap (n : Int) = (n : Int) % 2 ^ 64 := rfl
  rw [e2]; omega
theorem and64_32_1 : bits .and .u64 1 4294967295 = 1 := by decide

set_option maxHeartbeats 1000000 in
theorem mul64_one (n : Nat) (w : World) (h : n < 4294967296) :
    Calls Tryd.prog 79 #[.int .u64 1, .int .u64 n] w fun e w' => e = .returned (.tuple #[.int .u64 0, .int .u64 n]) ∧ w = w' := by
  have h1 := and64_32 n h
  have h2 := and64_32_1
  have h3 : (n : Int) / 4294967296 = 0 := by omega
  have h0 : (0 : Int) ≤ n := by omega
  have h4 : bits .and .u64 0 4294967295 = 0 := by decide
  have h5 : (n : Int) / 2 ^ 32 = 0 := by omega
  go_enter Tryd.func79, Tryd.ntmps79
  go_wp2_with fail
  go_ret2
  exact ⟨rfl, rfl⟩
theorem mul_one (n : Nat) (w : World) (h : n < 4294967296) :
    Calls Tryd.prog 67 #[.int .u64 1, .int .u64 n] w fun e w' => e = .returned (.tuple #[.int .u64 0, .int .u64 n]) ∧ w = w' := by
  go_enter Tryd.func67, Tryd.ntmps67
  go_wp2_with fail
  refine (mul64_one n w h).mono ?_
  rintro e w' ⟨rfl, rfl⟩
  go_wp2_with fail
  go_ret2
  exact ⟨rfl, rfl⟩
theorem bytesN1 : (Tryd.prog.info? 5).map (·.size) = some 1 := by kernel_rfl
theorem rep_fill (x : UInt8) (k c m n : Nat) (rest : List Value) (hk : c ≤ k) (hm : m = min c (n - k)) (hn : n ≤ k + rest.length) :
    ((List.replicate k (byV x) ++ rest).take k ++ ((List.replicate k (byV x) ++ rest).take c).take m ++ (List.replicate k (byV x) ++ rest).drop (k + m)) = List.replicate (k + m) (byV x) ++ rest.drop m := by
  have e1 : (List.replicate k (byV x) ++ rest).take k = List.replicate k (byV x) := by rw [List.take_append_of_le_length (by simp), List.take_of_length_le (by simp)]
  have e2 : ((List.replicate k (byV x) ++ rest).take c).take m = List.replicate m (byV x) := by
    rw [List.take_take, List.take_append_of_le_length (by simp; omega), List.take_replicate]
    congr 1
    omega
  have e3 : (List.replicate k (byV x) ++ rest).drop (k + m) = rest.drop m := by
    rw [List.drop_append, List.drop_of_length_le (by simp)]
    simp
  rw [e1, e2, e3, List.replicate_append_replicate]

set_option maxRecDepth 100000 in
set_option maxHeartbeats 1000000 in
theorem repeat_any (x : UInt8) (n : Nat) (A : Option Addr) (c : Nat) (w : World) (hb : RB w A 1 [x]) (hn : n ≤ 8192) :
    Calls Tryd.prog 50 #[.slice A 1 c, .int .i64 n] w fun e w' => ∃ g, e = .returned (.slice (some ⟨g, 0, none⟩) n n) ∧ w.heap.size ≤ g ∧ g < w'.heap.size ∧ RB w' (some ⟨g, 0, none⟩) n (List.replicate n x) ∧ Below w.heap.size w w' := by
  by_cases h0 : n = 0
  · subst h0
    go_enter Tryd.func50, Tryd.ntmps50
    go_wp2_with fail
    go_ret
    exact ⟨_, rfl, Nat.le_refl _, by simp, RB.nil _ _, (Below.refl _ _).alloc (Nat.le_refl _) _⟩
  · have t1 : ((n : Int) == 0) = false := by rw [beq_eq_false_iff_ne]; omega
    have t2 : ¬ ((n : Int) < 0) := by omega
    have t3 : decide ((8192 : Int) < (n : Int)) = false := by simp; omega
    have t4 : decide ((9223372036854775807 : Int) < (n : Int)) = false := by simp; omega
    obtain ⟨cs, hrunM, hle, hmx⟩ := Lib.run_makeNoZero (P := Tryd.prog) w #[3] 40 5 Tryd.underlying40 n (by omega)
    have hcall : (callFunc 68 #[.int .i64 (n : Int)]).run Tryd.prog w = .ok (.value (.slice (some ⟨w.heap.size, 0, none⟩) n cs.size)) (w.drew.drew.alloc (.cells cs 5)) := by
      rw [run_callFunc_extern Tryd.func68 (by kernel_rfl) (by kernel_rfl) (by kernel_rfl) (e := Extern.BytealgMakeNoZero.makeNoZero #[3] #[40]) (by kernel_rfl), hrunM]
      rfl
    have i0 : (0 : Int) ≤ (n : Int) := by omega
    have i1 : (n : Int) ≤ (cs.size : Int) := by omega
    have k1 : Blk (w.drew.drew.alloc (.cells cs 5)) w.heap.size 5 cs.toList := Blk.new w.drew.drew _ _
    have B1 : Below w.heap.size w (w.drew.drew.alloc (.cells cs 5)) := (Below.refl _ _).drew.drew.alloc (Nat.le_refl _) _
    clear hrunM hmx
    generalize w.drew.drew.alloc (.cells cs 5) = w1 at hcall k1 B1
    go_enter Tryd.func50, Tryd.ntmps50
    go_wp2_with fail
    refine (mul_one n w (by omega)).mono ?_
    rintro e w' ⟨rfl, rfl⟩
    go_wp2_with ((with_reducible refine is_copy ?_); refine wp_copyB w.heap.size 0 n n 5 _ _ k1 Tryd.underlying40 bytesN1 A 1 c [byV x] (hb.below B1) (byV_one [x]) rfl rfl (by simp; omega) ?_; intro w2 k2 r2; go_frame)
    have B2 := B1.grown r2 B1.size (fun k hk => by cases hk; exact Nat.le_refl _)
    have e1 : min 1 n = 1 := by omega
    have e2 : List.take 0 cs.toList ++ List.take 1 [byV x] ++ List.drop (0 + 1) cs.toList = List.replicate 1 (byV x) ++ cs.toList.drop 1 := by simp
    rw [e1, e2] at k2
    rw [e1, show goInt ((1 : Nat) : Int) = .int .i64 1 from rfl]
    have hg := k1.lt
    have hl : cs.toList.length = cs.size := by simp
    have HL := hid hl
    clear hcall k1 B1 r2 e1 e2 i1 hl t1 t2 t3 t4 i0
    generalize cs.toList = l at *
    generalize cs.size = m at *
    go_loopw [10, 11] (fun b _ wr => ∃ k : Nat, 1 ≤ k ∧ k ≤ n ∧ b = .int .i64 k ∧ Blk wr w.heap.size 5 (List.replicate k (byV x) ++ l.drop k) ∧ Below w.heap.size w wr) (fun b _ _ => n - (intOf b).toNat)
    case atStart => exact ⟨1, by omega, by omega, rfl, k2, B2⟩
    case round =>
      obtain ⟨k, hk1, hkn, rfl, kb, hbel⟩ := hrel
      clear k2 B2
      by_cases hlt : k < n
      · have hmn : min (k : Int) (n : Int) = k := by omega
        have s1 : ∀ wx, (Instr.slice 40 (.slice (some ⟨w.heap.size, 0, none⟩) n n) (some (.int .i64 (k : Int))) none none).run Tryd.prog wx = .ok (.slice (some ⟨w.heap.size, k, none⟩) (n - k) (n - k)) wx := fun wx => by
          have := run_from (P := Tryd.prog) 40 5 Tryd.underlying40 bytesN1 (some ⟨w.heap.size, 0, none⟩) n n k .i64 k rfl (by omega) wx
          rw [if_neg (by omega)] at this
          simpa [add_spot] using this
        go_wp2_with fail
        have kd : Blk wr.drew w.heap.size 5 (List.replicate k (byV x) ++ List.drop k l) := kb
        have hsrc : RL wr.drew 1 (some ⟨w.heap.size, 0, none⟩) k ((List.replicate k (byV x) ++ List.drop k l).take k) := by
          have := kd.rl 0 k 1 (by simp)
          rwa [List.drop_zero, Nat.mul_one] at this
        have hone : ∀ v ∈ (List.replicate k (byV x) ++ List.drop k l).take k, v.oneCell' = true := fun v hv => by
          rw [List.take_append_of_le_length (by simp), List.take_of_length_le (by simp)] at hv
          exact byV_one (List.replicate k x) v (by simpa [List.map_replicate] using hv)
        have hfit : k + (n - k) ≤ (List.replicate k (byV x) ++ List.drop k l).length := by simp [HL.out]; omega
        have e4 := IntWalk.i64_in ((k : Int) + (min k (n - k) : Nat)) (by omega)
        go_region_law (refine step_copyB rfl (.tmp 70) (.tmp 73) 40 40 rfl w.heap.size k (n - k) (n - k) 5 5 (List.replicate k (byV x) ++ List.drop k l) kd Tryd.underlying40 bytesN1 (some ⟨w.heap.size, 0, none⟩) k n ((List.replicate k (byV x) ++ List.drop k l).take k) hsrc hone (by simp [Act.eval, Act.put]) (by simp [Act.eval, Act.put]) hfit ?_; intro w3 k3 r3)
        rw [rep_fill x k k (min k (n - k)) n (l.drop k) (Nat.le_refl _) rfl (by simp [HL.out]; omega), List.drop_drop] at k3
        simp only [List.getElem_toArray, List.getElem_cons_succ, List.getElem_cons_zero]
        go_frame
        go_roundw
        case rel =>
          have R : ∃ q : Nat, 1 ≤ q ∧ q ≤ n ∧ Value.int .i64 ((k : Int) + ((min k (n - k) : Nat) : Int)) = .int .i64 q ∧ Blk w3 w.heap.size 5 (List.replicate q (byV x) ++ List.drop q l) ∧ Below w.heap.size w w3 := ⟨k + min k (n - k), by omega, by omega, by go_num, k3, hbel.drew.grown r3 hbel.size (fun q hq => by cases hq; exact Nat.le_refl _)⟩
          exact ⟨_, _, _, _, _, _, _, _, _, _, _, _, _, _, _, _, _, R, rfl⟩
        case measure => simp [intOf]; omega
      · obtain rfl : k = n := by omega
        go_wp2_with fail
        go_ret
        exact ⟨_, rfl, Nat.le_refl _, kb.lt, by
          have := kb.rl 0 k 1 (by simp)
          unfold RB
          simpa [List.take_append, List.map_replicate] using this, hbel⟩
end Go.Proofs.YtanglofabkbllaaDoor
