/- header of package wal, walked. Conditions: the numbers fit; the table of remainders is laid. -/
import Derived.Test.YtlokfndonjldpaaDoorLg
import Derived.Test.YtlokfndonjldpaaDoorNum
import Derived.Test.YtlokfndonjldpaaDoorApp
import Derived.Test.YtlokfndonjldpaaDoorHead
import Derived.StillTailTactics
set_option linter.unusedSimpArgs false
set_option linter.unusedVariables false
namespace Go.Proofs.YtlokfndonjldpaaDoor
open Go.RowKit

def hdrB (e ff : Nat) : List UInt8 := [79, 87, 65, 76] ++ le 8 e ++ le 8 ff
theorem hdrB_len (e ff : Nat) : (hdrB e ff).length = 20 := by simp [hdrB]
theorem arr128 : ArrT Tryd.prog 83 ((zeroB 128).map byV) := by
  unfold ArrT
  kernel_rfl
set_option maxRecDepth 100000 in
set_option maxHeartbeats 2000000 in
theorem header_any (e ff : Nat) (w : World) (he : e < 18446744073709551616) (hf : ff < 18446744073709551616) (hT : Tab w) :
    Calls Tryd.prog 41 #[.int .u64 e, .int .u64 ff] w fun ex w' => ∃ g, ex = .returned (.slice (some ⟨g, 0, none⟩) 128 128) ∧ w.heap.size ≤ g ∧ BlkB w' g 83 (hdr e ff) ∧ Below w.heap.size w w' := by
    go_enter Tryd.func41, Tryd.ntmps41
    go_wp2_with fail
    refine (number_any e he w).mono ?_
    rintro ex w1 ⟨rfl, b1⟩
    go_wp2_with fail
    refine (number_any ff hf w1).mono ?_
    rintro ex w2 ⟨rfl, b2⟩
    have B2 := b1.trans (b2.mono b1.size)
    clear b1 b2
    go_wp2_with (first
      | ((with_reducible refine is_alloc 126 ?_); refine wp_allocB (w := w2) _ arr8 ?_; intro w3 k3 b3 s3; go_frame)
      | ((with_reducible refine is_alloc 126 ?_); refine wp_allocB (w := w3) _ arr8 ?_; intro w4 k4 b4 s4; go_frame)
      | ((with_reducible refine is_store 126 ?_); refine wp_storeB w2.heap.size _ _ ((le 8 e).map byV) (k3.keep b4) (arr8n.trans (by simp)) (by simp) (byV_one _) rfl rfl ?_; intro w5 k5 r5; go_frame)
      | ((with_reducible refine is_store 126 ?_); refine wp_storeB w3.heap.size _ _ ((le 8 ff).map byV) (k4.grown r5 (by simp; omega)) (arr8n.trans (by simp)) (by simp) (byV_one _) rfl rfl ?_; intro w6 k6 r6; go_frame)
      | ((with_reducible refine is_alloc 83 ?_); refine wp_allocB (w := w6) _ arr128 ?_; intro w7 k7 b7 s7; go_frame)
      | ((with_reducible refine is_copy ?_); refine wp_copyFS w6.heap.size 0 4 128 _ _ [] 128 k7 rfl bytesT.1 bytesN [79, 87, 65, 76] rfl rfl (by omega) (by simp) ?_; intro w8 k8 r8; go_frame))
    have q5 : BlkB w8 w2.heap.size 126 (le 8 e) := ((k5.grown r6 (by simp; omega)).keep b7).grown r8 (by have := k5.lt; have := r6.size; simp; omega)
    have q6 : BlkB w8 w3.heap.size 126 (le 8 ff) := (k6.keep b7).grown r8 (by have := k6.lt; simp; omega)
    have B3 := B2.trans (b3.mono B2.size)
    have B4 := B3.trans (b4.mono B3.size)
    have B5 := B4.grown r5 B4.size (fun k hk => by cases hk; exact B2.size)
    have B6 := B5.grown r6 B5.size (fun k hk => by cases hk; exact B3.size)
    have B7 := B6.trans (b7.mono B6.size)
    have b := B7.grown r8 B7.size (fun k hk => by cases hk; exact B6.size)
    have hg : w.heap.size ≤ w6.heap.size := B6.size
    have n5 : ¬ w6.heap.size = w2.heap.size := by have := k5.lt; have := r6.size; omega
    have n6 : ¬ w6.heap.size = w3.heap.size := by have := k6.lt; omega
    have k : BlkB w8 w6.heap.size 83 ([79, 87, 65, 76] ++ zeroB 124) := k8
    clear B2 B3 B4 B5 B6 B7 k3 k4 k5 k6 k7 k8 r5 r6 r8 b3 b4 b7 s3 s4 s7
    generalize w6.heap.size = g at *
    generalize w2.heap.size = g5 at *
    generalize w3.heap.size = g6 at *
    go_still_tail 2, (by kernel_rfl)
    refine wp_copyF g 4 8 124 _ _ [79, 87, 65, 76] 124 (show BlkB w8.drew _ _ _ from k) rfl bytesT.1 bytesN (some ⟨g5, 0, none⟩) 8 8 (le 8 e) ((show BlkB w8.drew _ _ _ from q5).cells (by simp)) rfl rfl (by omega) (fun w9 k9 r9 => ?_)
    replace b := b.drew.grown r9 b.drew.size (fun k hk => by cases hk; exact hg)
    replace q6 : BlkB w9 g6 126 (le 8 ff) := Blk.grown (show BlkB w8.drew _ _ _ from q6) r9 (by simpa using n6)
    rw [show min 8 8 = 8 from rfl, List.take_of_length_le (show (le 8 e).length ≤ 8 by simp), show 124 - 8 = 116 from rfl] at k9
    clear k q5 r9 n5
    go_frame
    go_wp2_with fail
    go_still_tail 2, (by kernel_rfl)
    refine wp_copyF g 12 8 116 _ _ ([79, 87, 65, 76] ++ le 8 e) 116 (show BlkB w9.drew _ _ _ from k9) (by simp) bytesT.1 bytesN (some ⟨g6, 0, none⟩) 8 8 (le 8 ff) ((show BlkB w9.drew _ _ _ from q6).cells (by simp)) rfl rfl (by omega) (fun w10 k10 r10 => ?_)
    replace b := b.drew.grown r10 b.drew.size (fun k hk => by cases hk; exact hg)
    rw [show min 8 8 = 8 from rfl, List.take_of_length_le (show (le 8 ff).length ≤ 8 by simp), show 116 - 8 = 108 from rfl] at k10
    have k : BlkB w10 g 83 (hdrB e ff ++ zeroB 108) := k10
    clear k9 q6 r10 n6 k10
    go_frame
    go_wp2_with fail
    refine wp_region_head 25 3 [20, 21, 22] [] ((fun kq => ([fun u w' => u = .slice (some ⟨g, 0, none⟩) 24 128, fun u w' => u = .slice (some ⟨g, 0, none⟩) 20 128, fun u w' => ∃ (A' : Option Addr), ∃ (c' : Nat), u = .slice A' 24 c' ∧ RB w' A' 24 (sealed (hdrB e ff))] : List (Value → World → Prop)).getD kq (fun _ _ => True))) (by kernel_rfl) rfl (by kernel_rfl) (.inl rfl) ?grow ?step ?tail
    case step =>
      simp only [List.take_succ_cons, List.take_zero]
      refine HSteps.cons ?_ ?_
      · intro f w' hb hU
        simp only [putAll, List.foldl_cons, List.foldl_nil]
        go_frame
        go_wp2_with fail
        exact ⟨rfl, _, rfl, Below.refl _ _, rfl⟩
      refine HSteps.cons ?_ ?_
      · intro f w' hb hU
        simp only [putAll, List.foldl_cons, List.foldl_nil]
        go_frame
        go_wp2_with fail
        exact ⟨rfl, _, rfl, Below.refl _ _, rfl⟩
      refine HSteps.cons ?_ ?_
      · intro f w' hb hU
        obtain u1 : f 21 = .slice (some ⟨g, 0, none⟩) 20 128 := hU.get ⟨1, .data⟩ (by simp) rfl
        have R := append_any (some ⟨g, 0, none⟩) 20 128 (hdrB e ff) w' (hT.below ((b.trans (hb.mono b.size))) hT.pos) (by have := BlkB.rb (k.keep hb) 0 20 (by simp [hdrB, zeroB_len]); rwa [List.drop_zero, List.take_left' (hdrB_len e ff)] at this) (by omega)
        simp only [putAll, List.foldl_cons, List.foldl_nil]
        go_frame
        try simp only [u1]
        go_wp2_with fail
        refine (R).mono ?_
        rintro e w3 ⟨v3, rfl, hown3, b3⟩
        rw [sealed_len, hdrB_len] at hown3
        obtain ⟨A3, c3, rfl, hr3, _, _⟩ := own_form hown3
        go_wp2_with fail
        exact ⟨rfl, _, rfl, b3, A3, c3, rfl, hr3⟩
      exact HSteps.nil
    case grow =>
      intro kq u wa wb hb hu
      rcases kq with _ | _ | _ | kq
      · exact hu
      · exact hu
      · obtain ⟨A', c', ue, uf0⟩ := hu
        exact ⟨A', c', ue, uf0.below hb⟩
      · trivial
    case tail =>
      intro f w7 hb7 hU
      obtain u0 : f 20 = .slice (some ⟨g, 0, none⟩) 24 128 := hU.get 0 (by decide)
      obtain ⟨A', c', u2, v2_0⟩ : ∃ (A' : Option Addr), ∃ (c' : Nat), f 22 = .slice A' 24 c' ∧ RB w7 A' 24 (sealed (hdrB e ff)) := hU.get 2 (by decide)
      simp only [List.drop_succ_cons, List.drop_zero, putAll, List.foldl_cons, List.foldl_nil]
      go_frame
      simp only [u0, u2]
      clear u0 u2
      clear hU
      have k7 := k.keep hb7
      have B7 := b.trans (hb7.mono b.size)
      clear hb7
      go_wp2_with ((with_reducible refine is_copy ?_); refine wp_copyB g 0 24 128 _ _ _ k7 bytesT.1 bytesN A' 24 c' _ v2_0 (byV_one _) rfl rfl (by simp [hdrB, zeroB_len]) ?_; intro w8 k8 r8; go_frame)
      have e8 : List.take 0 (List.map byV (hdrB e ff ++ zeroB 108)) ++ List.take (min 24 24) (List.map byV (sealed (hdrB e ff))) ++ List.drop (0 + min 24 24) (List.map byV (hdrB e ff ++ zeroB 108)) = (hdr e ff).map byV := by
        rw [List.take_zero, List.nil_append, Nat.min_self, Nat.zero_add, List.take_of_length_le (by rw [List.length_map, sealed_len, hdrB_len]; exact Nat.le_refl _), ← List.map_drop, ← List.map_append, List.drop_append, hdrB_len, List.drop_of_length_le (by rw [hdrB_len]; omega), List.nil_append, drop_zeroB]
        rfl
      rw [e8] at k8
      go_wp2_with fail
      go_ret
      exact ⟨g, rfl, hg, k8, B7.grown r8 B7.size (fun k hk => by cases hk; exact hg)⟩
end Go.Proofs.YtlokfndonjldpaaDoor
