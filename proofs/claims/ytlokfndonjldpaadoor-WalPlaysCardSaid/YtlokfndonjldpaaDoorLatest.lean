/- latest of package wal, walked. Conditions: the sectors read. -/
import Derived.Test.YtlokfndonjldpaaDoorIntact
set_option linter.unusedSimpArgs false
set_option linter.unusedVariables false
namespace Go.Proofs.YtlokfndonjldpaaDoor
open Go.RowKit

def late (e : Nat) (fs : List (List UInt8)) (k : Nat) : Nat := latest e (fs.take k)
theorem late_succ (e : Nat) {fs : List (List UInt8)} {k : Nat} {s : List UInt8} (h : fs[k]? = some s) : late e fs (k + 1) = later e (later e (late e fs k) s) (s.drop 64) := by
  unfold late latest
  rw [List.take_add_one, h, List.foldl_append]
  rfl
theorem late_all (e : Nat) (fs : List (List UInt8)) : late e fs fs.length = latest e fs := by
  unfold late
  rw [List.take_length]
theorem later_lt (e m : Nat) (s : List UInt8) (h : m < 18446744073709551616) : later e m s < 18446744073709551616 := by
  unfold later
  split
  · exact Nat.max_lt.2 ⟨h, tG_lt s⟩
  · exact h
theorem late_lt (e : Nat) (fs : List (List UInt8)) : ∀ k, k ≤ fs.length → late e fs k < 18446744073709551616
  | 0, _ => by unfold late latest; simp
  | k + 1, h => by
    have h1 := late_lt e fs k (by omega)
    rw [late_succ e (List.getElem?_eq_getElem (show k < fs.length by omega))]
    exact later_lt _ _ _ (later_lt _ _ _ h1)
/-- behind j halves of a sector -/
def laterN (e m : Nat) (s : List UInt8) : Nat → Nat
  | 0 => m
  | 1 => later e m s
  | _ => later e (later e m s) (s.drop 64)
theorem laterN_succ (e m : Nat) (s : List UInt8) (j : Nat) (hj : j < 2) : laterN e m s (j + 1) = later e (laterN e m s j) (s.drop (64 * j)) := by
  rcases j with _ | _ | j
  · rfl
  · rfl
  · omega

set_option maxRecDepth 100000 in
set_option maxHeartbeats 2000000 in
theorem latest_any (A : Option Addr) (n c : Nat) (fs : List (List UInt8)) (e : Nat) (w : World) (h : SecL w A n fs) (hnc : n ≤ c) (hcm : c ≤ 9223372036854775807) :
    Calls Tryd.prog 43 #[.slice A n c, .int .u64 e] w fun ex w' => ex = .returned (.int .u64 (latest e fs)) ∧ Below w.heap.size w w' := by
  have HS := hid h
  have HN := hid h.len
  clear h
  go_enter Tryd.func43, Tryd.ntmps43
  go_wp2_with fail
  go_loopw [5, 12] (fun m i wr => ∃ k : Nat, k ≤ n ∧ i = .int .i64 k ∧ m = .int .u64 (late e fs k) ∧ Below w.heap.size w wr) (fun _ i _ => n - (intOf i).toNat)
  case atStart => exact ⟨0, Nat.zero_le _, rfl, rfl, Below.refl _ _⟩
  case round =>
    obtain ⟨k, hk, rfl, rfl, hbel⟩ := hrel
    by_cases hlt : k < n
    · obtain ⟨b, off, b', o', c', s, rfl, hbb, hs, hsl, hcell, hrs, hs1, hs2⟩ := HS.out.at hlt
      have HX := hid (late_succ e hs)
      have hcell' := (hbel.cell (p := ⟨b, off + k, none⟩) hbb).trans hcell
      clear hcell hs
      generalize late e fs k = m0 at *
      go_wp2_with fail
      go_loopw [5, 8] (fun m i wq => ∃ j : Nat, j ≤ 2 ∧ i = .int .i64 (64 * (j : Int)) ∧ m = .int .u64 (laterN e m0 s j) ∧ Below w.heap.size w wq) (fun _ i _ => 128 - (intOf i).toNat)
      case atStart => exact ⟨0, by omega, rfl, rfl, hbel⟩
      case round =>
        obtain ⟨j, hj, rfl, rfl, hbq⟩ := hrel
        clear hcell' hbel
        by_cases hj2 : j < 2
        · have hrq := hrs.below hbq
          have HNN := hid (laterN_succ e m0 s j hj2)
          generalize laterN e m0 s j = m1 at *
          have hlt' : (64 * (j : Int)) < 128 := by omega
          have nc : ¬ c' = 64 * j := by omega
          have ks : ∀ wx, (Instr.slice 25 (.slice (some ⟨b', o', none⟩) 128 c') (some (.int .i64 (64 * (j : Int)))) none none).run Tryd.prog wx = .ok (.slice (some ⟨b', o' + 64 * j, none⟩) (128 - 64 * j) (c' - 64 * j)) wx := fun wx => by
            have := run_from (P := Tryd.prog) 25 5 Tryd.underlying25 bytesN (some ⟨b', o', none⟩) 128 c' (64 * j) .i64 (64 * (j : Int)) (by omega) (by omega) wx
            rw [if_neg nc] at this
            simpa [add_spot] using this
          have HT := tagOf_any b' (o' + 64 * j) (128 - 64 * j) (c' - 64 * j) (s.drop (64 * j)) wr (hrq.tail (64 * j) (128 - 64 * j) (by omega)) (by omega) (by omega) (by omega)
          unfold tagV at HT
          have HC : Hid (later e m1 (s.drop (64 * j)) = if tE (s.drop (64 * j)) = e then max m1 (tG (s.drop (64 * j))) else m1) := hid rfl
          obtain ⟨m2, hm2⟩ : ∃ z, later e m1 (s.drop (64 * j)) = z := ⟨_, rfl⟩
          rw [hm2] at HC HNN
          clear hm2
          have HTg : Hid (tagCs (s.drop (64 * j)) = [.int .u64 (tE (s.drop (64 * j))), .int .u64 (tG (s.drop (64 * j))), .int .u64 (tL (s.drop (64 * j)))]) := hid rfl
          generalize tE (s.drop (64 * j)) = a1 at *
          generalize tG (s.drop (64 * j)) = a2 at *
          generalize tL (s.drop (64 * j)) = a3 at *
          go_wp2_with fail
          refine HT.mono ?_
          clear HT
          rintro ex w2 ⟨rfl, b2⟩
          have B2 := hbq.trans (b2.mono hbq.size)
          clear hbq b2 ks
          by_cases hae : a1 = e
          · subst hae
            have y1 : ((a1 : Int) == (a1 : Int)) = true := beq_self_eq_true _
            rw [if_pos rfl] at HC
            go_wp2_with (first
              | ((with_reducible refine is_alloc 95 ?_); refine wp_allocB (w := w2) _ arrTag ?_; intro w3 k3 b3 s3; go_frame)
              | ((with_reducible refine is_store 95 ?_); refine wp_storeB w2.heap.size _ _ [.int .u64 a1, .int .u64 a2, .int .u64 a3] k3 tagN rfl (by simp [Value.oneCell']) rfl rfl ?_; intro w4 k4 r4; go_frame; obtain ⟨e0, e1, e2⟩ := k4.c3))
            have B4 := (B2.trans (b3.mono B2.size)).grown r4 (B2.trans (b3.mono B2.size)).size (fun k hk => by cases hk; exact B2.size)
            all_goals (
              clear e0 e1 e2 k4 r4 k3 b3 s3 B2
              go_roundw
              case rel => exact ⟨j + 1, by omega, by go_num, by rw [HNN.out, HC.out]; first | rfl | (congr 1; omega), B4⟩
              case measure => simp [intOf]; omega)
          · have y1 : ((a1 : Int) == (e : Int)) = false := by rw [beq_eq_false_iff_ne]; omega
            rw [if_neg hae] at HC
            have HH := hid hae
            clear hae
            go_wp2_with (first
              | ((with_reducible refine is_alloc 95 ?_); refine wp_allocB (w := w2) _ arrTag ?_; intro w3 k3 b3 s3; go_frame)
              | ((with_reducible refine is_store 95 ?_); refine wp_storeB w2.heap.size _ _ [.int .u64 a1, .int .u64 a2, .int .u64 a3] k3 tagN rfl (by simp [Value.oneCell']) rfl rfl ?_; intro w4 k4 r4; go_frame; obtain ⟨e0, e1, e2⟩ := k4.c3))
            have B4 := (B2.trans (b3.mono B2.size)).grown r4 (B2.trans (b3.mono B2.size)).size (fun k hk => by cases hk; exact B2.size)
            clear e0 e1 e2 k4 r4 k3 b3 s3 B2
            go_roundw
            case rel => exact ⟨j + 1, by omega, by go_num, by rw [HNN.out, HC.out], B4⟩
            case measure => simp [intOf]; omega
        · obtain rfl : j = 2 := by omega
          go_wp2_with fail
          go_roundw
          case rel => exact ⟨k + 1, by omega, by go_num, by rw [HX.out]; rfl, hbq⟩
          case measure => simp [intOf]; omega
    · obtain rfl : k = n := by omega
      go_wp2_with fail
      go_ret
      refine ⟨?_, hbel⟩
      rw [← HN.out, late_all]
      rfl
end Go.Proofs.YtlokfndonjldpaaDoor
