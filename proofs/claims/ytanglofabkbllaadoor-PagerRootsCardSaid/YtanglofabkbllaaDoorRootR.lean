/- ordinalref13.Root, walked. Conditions: the argument reads, it has 1024 bytes. -/
import Derived.Test.YtanglofabkbllaaDoorRS
import Derived.Test.YtanglofabkbllaaDoorStored
import Derived.Test.YtanglofabkbllaaDoorBytes
import Derived.Test.YtanglofabkbllaaDoorRefDec
import Derived.Test.YtanglofabkbllaaDoorBody
import Derived.Test.YtanglofabkbllaaDoorHead
set_option linter.unusedSimpArgs false
set_option linter.unusedVariables false
set_option maxRecDepth 100000
namespace Go.Proofs.YtanglofabkbllaaDoor
open Go.RowKit

set_option maxHeartbeats 4000000 in
theorem rnew_blk (n : Nat) (w : World) (hn : n ≤ 1023) :
    Calls Tryd.prog 24 #[.int .i64 n] w fun e w' => ∃ gu gk gb : Nat, e = .returned (RV.v ⟨n, 0, 1, Sl.zero, ⟨some ⟨gu, 0, none⟩, n + 1, n + 1⟩, ⟨some ⟨gk, 0, none⟩, n + 1, n + 1⟩, ⟨some ⟨gb, 0, none⟩, n + 1, n + 1⟩⟩) ∧ Blk w' gu 4 (List.replicate (n + 1) (Value.bool false)) ∧ w.heap.size < gu ∧ Below w.heap.size w w' := by
  go_enter Tryd.func24, Tryd.ntmps24
  go_wp2_with ((with_reducible refine is_alloc 60 ?_); refine wp_allocB _ arrRS ?_; intro w1 k1 b1 s1; go_frame)
  have l1 := k1.lt
  refine wp_region_head 14 11 [3, 4, 5, 6, 7, 8, 9, 10, 11, 12, 13] [] ((fun kq => ([fun u w' => u = .int .i64 n, fun u w' => u = .int .i64 n, fun u w' => u = .int .i64 ((n : Int) + 1), fun u w' => ∃ (gu : Nat), u = .slice (some ⟨gu, 0, none⟩) (n + 1) (n + 1) ∧ Blk w' gu 4 (List.replicate (n + 1) (Value.bool false)) ∧ w.heap.size < gu, fun u w' => u = .int .i64 n, fun u w' => u = .int .i64 ((n : Int) + 1), fun u w' => ∃ (gk : Nat), u = .slice (some ⟨gk, 0, none⟩) (n + 1) (n + 1), fun u w' => u = .int .i64 n, fun u w' => u = .int .i64 ((n : Int) + 1), fun u w' => ∃ (gb : Nat), u = .slice (some ⟨gb, 0, none⟩) (n + 1) (n + 1), fun u w' => ∃ (gu : Nat), ∃ (gk : Nat), ∃ (gb : Nat), u = (RV.v ⟨n, 0, 1, Sl.zero, ⟨some ⟨gu, 0, none⟩, n + 1, n + 1⟩, ⟨some ⟨gk, 0, none⟩, n + 1, n + 1⟩, ⟨some ⟨gb, 0, none⟩, n + 1, n + 1⟩⟩) ∧ Blk w' gu 4 (List.replicate (n + 1) (Value.bool false)) ∧ w.heap.size < gu] : List (Value → World → Prop)).getD kq (fun _ _ => True))) (by kernel_rfl) rfl (by kernel_rfl) (.inl rfl) ?grow ?step ?tail
  case step =>
    simp only [List.take_succ_cons, List.take_zero]
    refine HSteps.cons ?_ ?_
    · intro f w' hb hU
      simp only [putAll, List.foldl_cons, List.foldl_nil]
      go_frame
      go_wp2_with fail
      exact ⟨rfl, _, rfl, Below.refl _ _, rfl⟩
    refine HSteps.cons ?_ ?_
    · intro f w' hb hU
      simp only [putAll, List.foldl_cons, List.foldl_nil]
      go_frame
      go_wp2_with fail
      exact ⟨rfl, _, rfl, Below.refl _ _, rfl⟩
    refine HSteps.cons ?_ ?_
    · intro f w' hb hU
      obtain u1 : f 4 = .int .i64 n := hU.get ⟨1, .data⟩ (by simp) rfl
      have e1 := IntWalk.i64_in ((n : Int) + 1) (by omega)
      simp only [putAll, List.foldl_cons, List.foldl_nil]
      go_frame
      try simp only [u1]
      go_wp2_with fail
      exact ⟨rfl, _, rfl, Below.refl _ _, rfl⟩
    refine HSteps.cons ?_ ?_
    · intro f w' hb hU
      obtain u2 : f 5 = .int .i64 ((n : Int) + 1) := hU.get ⟨2, .data⟩ (by simp) rfl
      simp only [putAll, List.foldl_cons, List.foldl_nil]
      go_frame
      try simp only [u2]
      go_wp2_with (at_make; refine wp_make _ rfl _ _ 57 rfl w'.heap.size 4 _ 1 boolT rfl .i64 .i64 _ _ (n + 1) rfl rfl (by go_num) (by go_num) (by omega) (by unfold maxLen; omega) (Nat.le_refl _) ?_; intro w5 hown5 r5; go_frame)
      exact ⟨rfl, _, rfl, ((Below.refl _ _).grown r5 (Nat.le_refl _) (fun k hk => by cases hk)), _, rfl, own_blk hown5, (by have := hb.size; omega)⟩
    refine HSteps.cons ?_ ?_
    · intro f w' hb hU
      simp only [putAll, List.foldl_cons, List.foldl_nil]
      go_frame
      go_wp2_with fail
      exact ⟨rfl, _, rfl, Below.refl _ _, rfl⟩
    refine HSteps.cons ?_ ?_
    · intro f w' hb hU
      obtain u4 : f 7 = .int .i64 n := hU.get ⟨4, .data⟩ (by simp) rfl
      have e1 := IntWalk.i64_in ((n : Int) + 1) (by omega)
      simp only [putAll, List.foldl_cons, List.foldl_nil]
      go_frame
      try simp only [u4]
      go_wp2_with fail
      exact ⟨rfl, _, rfl, Below.refl _ _, rfl⟩
    refine HSteps.cons ?_ ?_
    · intro f w' hb hU
      obtain u5 : f 8 = .int .i64 ((n : Int) + 1) := hU.get ⟨5, .data⟩ (by simp) rfl
      simp only [putAll, List.foldl_cons, List.foldl_nil]
      go_frame
      try simp only [u5]
      go_wp2_with (at_make; refine wp_make _ rfl _ _ 57 rfl w'.heap.size 4 _ 1 boolT rfl .i64 .i64 _ _ (n + 1) rfl rfl (by go_num) (by go_num) (by omega) (by unfold maxLen; omega) (Nat.le_refl _) ?_; intro w5 hown5 r5; go_frame)
      exact ⟨rfl, _, rfl, ((Below.refl _ _).grown r5 (Nat.le_refl _) (fun k hk => by cases hk)), _, rfl⟩
    refine HSteps.cons ?_ ?_
    · intro f w' hb hU
      simp only [putAll, List.foldl_cons, List.foldl_nil]
      go_frame
      go_wp2_with fail
      exact ⟨rfl, _, rfl, Below.refl _ _, rfl⟩
    refine HSteps.cons ?_ ?_
    · intro f w' hb hU
      obtain u7 : f 10 = .int .i64 n := hU.get ⟨7, .data⟩ (by simp) rfl
      have e1 := IntWalk.i64_in ((n : Int) + 1) (by omega)
      simp only [putAll, List.foldl_cons, List.foldl_nil]
      go_frame
      try simp only [u7]
      go_wp2_with fail
      exact ⟨rfl, _, rfl, Below.refl _ _, rfl⟩
    refine HSteps.cons ?_ ?_
    · intro f w' hb hU
      obtain u8 : f 11 = .int .i64 ((n : Int) + 1) := hU.get ⟨8, .data⟩ (by simp) rfl
      simp only [putAll, List.foldl_cons, List.foldl_nil]
      go_frame
      try simp only [u8]
      go_wp2_with (at_make; refine wp_make _ rfl _ _ 58 rfl w'.heap.size 40 _ 24 slsT rfl .i64 .i64 _ _ (n + 1) rfl rfl (by go_num) (by go_num) (by omega) (by unfold maxLen; omega) (Nat.le_refl _) ?_; intro w5 hown5 r5; go_frame)
      exact ⟨rfl, _, rfl, ((Below.refl _ _).grown r5 (Nat.le_refl _) (fun k hk => by cases hk)), _, rfl⟩
    refine HSteps.cons ?_ ?_
    · intro f w' hb hU
      obtain u0 : f 3 = .int .i64 n := hU.get ⟨0, .data⟩ (by simp) rfl
      obtain ⟨gu, u3, v3_0, v3_1⟩ : ∃ (gu : Nat), f 6 = .slice (some ⟨gu, 0, none⟩) (n + 1) (n + 1) ∧ Blk w' gu 4 (List.replicate (n + 1) (Value.bool false)) ∧ w.heap.size < gu := hU.get ⟨3, .data⟩ (by simp) rfl
      obtain ⟨gk, u6⟩ : ∃ (gk : Nat), f 9 = .slice (some ⟨gk, 0, none⟩) (n + 1) (n + 1) := hU.get ⟨6, .data⟩ (by simp) rfl
      obtain ⟨gb, u9⟩ : ∃ (gb : Nat), f 12 = .slice (some ⟨gb, 0, none⟩) (n + 1) (n + 1) := hU.get ⟨9, .data⟩ (by simp) rfl
      simp only [putAll, List.foldl_cons, List.foldl_nil]
      go_frame
      try simp only [u0, u3, u6, u9]
      go_wp2_with fail
      exact ⟨rfl, _, rfl, Below.refl _ _, gu, gk, gb, rfl, v3_0, v3_1⟩
    exact HSteps.nil
  case grow =>
    intro kq u wa wb hb hu
    rcases kq with _ | _ | _ | _ | _ | _ | _ | _ | _ | _ | _ | kq
    · exact hu
    · exact hu
    · exact hu
    · obtain ⟨gu, ue, uf0, uf1⟩ := hu
      exact ⟨gu, ue, uf0.keep hb, uf1⟩
    · exact hu
    · exact hu
    · exact hu
    · exact hu
    · exact hu
    · exact hu
    · obtain ⟨gu, gk, gb, ue, uf0, uf1⟩ := hu
      exact ⟨gu, gk, gb, ue, uf0.keep hb, uf1⟩
    · trivial
  case tail =>
    intro f w7 hb7 hU
    obtain ⟨gu, gk, gb, u10, v10_0, v10_1⟩ : ∃ (gu : Nat), ∃ (gk : Nat), ∃ (gb : Nat), f 13 = (RV.v ⟨n, 0, 1, Sl.zero, ⟨some ⟨gu, 0, none⟩, n + 1, n + 1⟩, ⟨some ⟨gk, 0, none⟩, n + 1, n + 1⟩, ⟨some ⟨gb, 0, none⟩, n + 1, n + 1⟩⟩) ∧ Blk w7 gu 4 (List.replicate (n + 1) (Value.bool false)) ∧ w.heap.size < gu := hU.get 10 (by decide)
    simp only [List.drop_succ_cons, List.drop_zero, putAll, List.foldl_cons, List.foldl_nil]
    go_frame
    simp only [u10]
    clear u10
    clear hU
    have k17 := k1.keep hb7
    have hB := b1.trans (hb7.mono b1.size)
    clear hb7 b1 s1 l1 k1
    go_wp2_with ((with_reducible refine is_store 60 ?_); refine wp_storeR w.heap.size _ ⟨n, 0, 1, Sl.zero, ⟨some ⟨gu, 0, none⟩, n + 1, n + 1⟩, ⟨some ⟨gk, 0, none⟩, n + 1, n + 1⟩, ⟨some ⟨gb, 0, none⟩, n + 1, n + 1⟩⟩ k17 rfl rfl rfl ?_; intro w9 k9 r9; go_frame)
    have q1 := v10_0.grown r9 (by simp; omega)
    refine bodyPost_ret (results_R1 Tryd.results24 _ _ w.heap.size ⟨n, 0, 1, Sl.zero, ⟨some ⟨gu, 0, none⟩, n + 1, n + 1⟩, ⟨some ⟨gk, 0, none⟩, n + 1, n + 1⟩, ⟨some ⟨gb, 0, none⟩, n + 1, n + 1⟩⟩ rfl k9) rfl ⟨gu, gk, gb, rfl, q1, v10_1, hB.grown r9 hB.size (fun z hz => by cases hz; omega)⟩
set_option maxHeartbeats 4000000 in
theorem number13_any (A : Option Addr) (n c : Nat) (l : List UInt8) (w : World) (hr : RB w A n l) (hn : 2 ≤ n) :
    Calls Tryd.prog 56 #[.slice A n c] w fun e w' => e = .returned (.int .i64 (num (l.take 2))) ∧ Below w.heap.size w w' := by
  have hl : l.length = n := hr.len
  obtain ⟨b, o, rfl, hbb, hc⟩ := hr.2 (by omega)
  match l, hl with
  | x0 :: x1 :: l2, hl =>
    have c0 : w.cell? ⟨b, o, none⟩ = some (.int .u8 (N8 x0)) := hc 0 _ rfl
    have c1 : w.cell? ⟨b, o + 1, none⟩ = some (.int .u8 (N8 x1)) := hc 1 _ rfl
    have hnum : (num ((x0 :: x1 :: l2).take 2) : Int) = N8 x0 + 256 * N8 x1 := by
      show ((x0.toNat + 256 * (x1.toNat + 256 * 0) : Nat) : Int) = (x0.toNat : Int) + 256 * (x1.toNat : Int)
      omega
    have b0 : 0 ≤ N8 x0 ∧ N8 x0 < 256 := by
      have := UInt8.toNat_lt x0
      show (0 : Int) ≤ (x0.toNat : Int) ∧ (x0.toNat : Int) < 256
      omega
    have b1 : 0 ≤ N8 x1 ∧ N8 x1 < 256 := by
      have := UInt8.toNat_lt x1
      show (0 : Int) ≤ (x1.toNat : Int) ∧ (x1.toNat : Int) < 256
      omega
    have e0 := IntWalk.i64_in (N8 x0) (by omega)
    have e1 := IntWalk.i64_in (N8 x1) (by omega)
    have e2 := IntWalk.i64_in (256 * N8 x1) (by omega)
    have e3 := IntWalk.i64_in (N8 x0 + 256 * N8 x1) (by omega)
    clear hr hc
    go_enter Tryd.func56, Tryd.ntmps56
    go_wp2_with fail
    refine wp_region_head 13 11 [3, 4, 5, 6, 7, 8, 9, 10, 11, 12, 2] [] ((fun kq => ([fun u w' => u = .slice (some ⟨b, o, none⟩) n c, fun u w' => u = .pointer (some ⟨b, o, none⟩), fun u w' => u = .int .u8 (N8 x0), fun u w' => u = .int .i64 (N8 x0), fun u w' => u = .slice (some ⟨b, o, none⟩) n c, fun u w' => u = .pointer (some ⟨b, o + 1, none⟩), fun u w' => u = .int .u8 (N8 x1), fun u w' => u = .int .i64 (N8 x1), fun u w' => u = .int .i64 (256 * N8 x1), fun u w' => u = .int .i64 (N8 x0 + 256 * N8 x1), fun u w' => u = .int .i64 (N8 x0 + 256 * N8 x1)] : List (Value → World → Prop)).getD kq (fun _ _ => True))) (by kernel_rfl) rfl (by kernel_rfl) (.inl rfl) ?grow ?step ?tail
    case step =>
      simp only [List.take_succ_cons, List.take_zero]
      refine HSteps.cons ?_ ?_
      · intro f w' hb hU
        simp only [putAll, List.foldl_cons, List.foldl_nil]
        go_frame
        go_wp2_with fail
        exact ⟨rfl, _, rfl, Below.refl _ _, rfl⟩
      refine HSteps.cons ?_ ?_
      · intro f w' hb hU
        obtain u0 : f 3 = .slice (some ⟨b, o, none⟩) n c := hU.get ⟨0, .data⟩ (by simp) rfl
        simp only [putAll, List.foldl_cons, List.foldl_nil]
        go_frame
        try simp only [u0]
        go_wp2_with fail
        exact ⟨rfl, _, rfl, Below.refl _ _, rfl⟩
      refine HSteps.cons ?_ ?_
      · intro f w' hb hU
        obtain u1 : f 4 = .pointer (some ⟨b, o, none⟩) := hU.get ⟨1, .data⟩ (by simp) rfl
        have h0 := (hb.cell hbb).trans c0
        simp only [putAll, List.foldl_cons, List.foldl_nil]
        go_frame
        try simp only [u1]
        go_wp2_with fail
        exact ⟨rfl, _, rfl, Below.refl _ _, rfl⟩
      refine HSteps.cons ?_ ?_
      · intro f w' hb hU
        obtain u2 : f 5 = .int .u8 (N8 x0) := hU.get ⟨2, .data⟩ (by simp) rfl
        simp only [putAll, List.foldl_cons, List.foldl_nil]
        go_frame
        try simp only [u2]
        go_wp2_with fail
        exact ⟨rfl, _, rfl, Below.refl _ _, rfl⟩
      refine HSteps.cons ?_ ?_
      · intro f w' hb hU
        simp only [putAll, List.foldl_cons, List.foldl_nil]
        go_frame
        go_wp2_with fail
        exact ⟨rfl, _, rfl, Below.refl _ _, rfl⟩
      refine HSteps.cons ?_ ?_
      · intro f w' hb hU
        obtain u4 : f 7 = .slice (some ⟨b, o, none⟩) n c := hU.get ⟨4, .data⟩ (by simp) rfl
        simp only [putAll, List.foldl_cons, List.foldl_nil]
        go_frame
        try simp only [u4]
        go_wp2_with fail
        exact ⟨rfl, _, rfl, Below.refl _ _, rfl⟩
      refine HSteps.cons ?_ ?_
      · intro f w' hb hU
        obtain u5 : f 8 = .pointer (some ⟨b, o + 1, none⟩) := hU.get ⟨5, .data⟩ (by simp) rfl
        have h1 := (hb.cell hbb).trans c1
        simp only [putAll, List.foldl_cons, List.foldl_nil]
        go_frame
        try simp only [u5]
        go_wp2_with fail
        exact ⟨rfl, _, rfl, Below.refl _ _, rfl⟩
      refine HSteps.cons ?_ ?_
      · intro f w' hb hU
        obtain u6 : f 9 = .int .u8 (N8 x1) := hU.get ⟨6, .data⟩ (by simp) rfl
        simp only [putAll, List.foldl_cons, List.foldl_nil]
        go_frame
        try simp only [u6]
        go_wp2_with fail
        exact ⟨rfl, _, rfl, Below.refl _ _, rfl⟩
      refine HSteps.cons ?_ ?_
      · intro f w' hb hU
        obtain u7 : f 10 = .int .i64 (N8 x1) := hU.get ⟨7, .data⟩ (by simp) rfl
        simp only [putAll, List.foldl_cons, List.foldl_nil]
        go_frame
        try simp only [u7]
        go_wp2_with fail
        exact ⟨rfl, _, rfl, Below.refl _ _, rfl⟩
      refine HSteps.cons ?_ ?_
      · intro f w' hb hU
        obtain u3 : f 6 = .int .i64 (N8 x0) := hU.get ⟨3, .data⟩ (by simp) rfl
        obtain u8 : f 11 = .int .i64 (256 * N8 x1) := hU.get ⟨8, .data⟩ (by simp) rfl
        simp only [putAll, List.foldl_cons, List.foldl_nil]
        go_frame
        try simp only [u3, u8]
        go_wp2_with fail
        exact ⟨rfl, _, rfl, Below.refl _ _, rfl⟩
      refine HSteps.cons ?_ ?_
      · intro f w' hb hU
        obtain u9 : f 12 = .int .i64 (N8 x0 + 256 * N8 x1) := hU.get ⟨9, .data⟩ (by simp) rfl
        obtain u0 : f 3 = .slice (some ⟨b, o, none⟩) n c := hU.get ⟨0, .phase⟩ (by simp) rfl
        obtain u1 : f 4 = .pointer (some ⟨b, o, none⟩) := hU.get ⟨1, .phase⟩ (by simp) rfl
        obtain u2 : f 5 = .int .u8 (N8 x0) := hU.get ⟨2, .phase⟩ (by simp) rfl
        obtain u3 : f 6 = .int .i64 (N8 x0) := hU.get ⟨3, .phase⟩ (by simp) rfl
        obtain u4 : f 7 = .slice (some ⟨b, o, none⟩) n c := hU.get ⟨4, .phase⟩ (by simp) rfl
        obtain u5 : f 8 = .pointer (some ⟨b, o + 1, none⟩) := hU.get ⟨5, .phase⟩ (by simp) rfl
        obtain u6 : f 9 = .int .u8 (N8 x1) := hU.get ⟨6, .phase⟩ (by simp) rfl
        obtain u7 : f 10 = .int .i64 (N8 x1) := hU.get ⟨7, .phase⟩ (by simp) rfl
        obtain u8 : f 11 = .int .i64 (256 * N8 x1) := hU.get ⟨8, .phase⟩ (by simp) rfl
        simp only [putAll, List.foldl_cons, List.foldl_nil]
        go_frame
        try simp only [u9, u0, u1, u2, u3, u4, u5, u6, u7, u8]
        go_wp2_with fail
        exact ⟨rfl, _, rfl, Below.refl _ _, rfl⟩
      exact HSteps.nil
    case grow =>
      intro kq u wa wb hb hu
      rcases kq with _ | _ | _ | _ | _ | _ | _ | _ | _ | _ | _ | kq
      · exact hu
      · exact hu
      · exact hu
      · exact hu
      · exact hu
      · exact hu
      · exact hu
      · exact hu
      · exact hu
      · exact hu
      · exact hu
      · trivial
    case tail =>
      intro f w7 hb7 hU
      obtain u10 : f 2 = .int .i64 (N8 x0 + 256 * N8 x1) := hU.get 10 (by decide)
      simp only [List.drop_succ_cons, List.drop_zero, putAll, List.foldl_cons, List.foldl_nil]
      go_frame
      simp only [u10]
      clear u10
      clear hU
      go_wp2_with fail
      go_ret
      refine ⟨?_, hb7⟩
      rw [hnum]
      rfl
  | [_], hl => simp at hl; omega
  | [], hl => simp at hl; omega
theorem RB.ne_of {w : World} {b o n g : Nat} {l : List UInt8} {T : TypeId} {cs : List Value} (h : RB w (some ⟨b, o, none⟩) n l) (hn : 0 < n) (k : Blk w g T cs) (hc : ∀ v ∈ cs, ∀ x, v ≠ byV x) : ¬ b = g := by
  rintro rfl
  obtain ⟨b', o', e, _, hx⟩ := h.2 hn
  cases e
  have hl := h.len
  obtain ⟨x, hx0⟩ : ∃ x, l[0]? = some x := ⟨_, List.getElem?_eq_getElem (by omega)⟩
  have h1 := hx 0 (byV x) (by rw [List.getElem?_map, hx0]; rfl)
  rw [k.cell] at h1
  exact hc _ (List.mem_of_getElem? h1) x rfl
theorem Blk.ne13 {w : World} {g h : Nat} {t u : TypeId} {cs ds : List Value} (k1 : Blk w g t cs) (k2 : Blk w h u ds) (ht : t ≠ u) : ¬ g = h := by
  rintro rfl
  unfold Blk at k1 k2
  rw [k1] at k2
  cases k2
  exact ht rfl
theorem numN13 : (Tryd.prog.info? 31).map (·.size) = some 1 ∧ (Tryd.prog.info? 3).map (·.size) = some 1 := ⟨by kernel_rfl, by kernel_rfl⟩
theorem rv_noby (v : RV) : ∀ x ∈ v.cs, ∀ y, x ≠ byV y := by
  intro x hx y
  simp only [RV.cs, List.mem_cons, List.not_mem_nil, or_false] at hx
  rcases hx with rfl | rfl | rfl | rfl | rfl | rfl | rfl <;> (intro h; unfold byV at h; cases h)
theorem bools_noby (us : List Bool) : ∀ x ∈ us.map Value.bool, ∀ y, x ≠ byV y := by
  intro x hx y
  obtain ⟨b, _, rfl⟩ := List.mem_map.1 hx
  intro h
  cases h
/-- what Root gives -/
structure RootF (n : Nat) (o : Option Sta) (v : RV) (bo : Bool) (w : World) : Prop where
  no : o = none → v = RV.zero ∧ bo = false
  yes : ∀ s, o = some s → bo = true ∧ v.root = s.root ∧ v.num = s.num ∧ SlR (fun _ => True) w v.m s.mt ∧ v.u.n = n + 1 ∧ n + 1 ≤ v.u.c ∧ v.u.c ≤ 9223372036854775807 ∧ ∃ us : List Bool, RL w 1 v.u.A (n + 1) (us.map Value.bool) ∧ us.length = n + 1 ∧ ∀ i, i ≤ n → us[i]?.getD false = bit s.nu i
theorem RootF.keep {n : Nat} {o : Option Sta} {v : RV} {bo : Bool} {w w' : World} (h : RootF n o v bo w) (hb : Below w.heap.size w w') : RootF n o v bo w' :=
  ⟨h.no, fun s hs => by
    obtain ⟨h1, h2, h3, h4, h5, h6, h7, us, h8, h9, h10⟩ := h.yes s hs
    exact ⟨h1, h2, h3, h4.keep hb, h5, h6, h7, us, h8.below hb, h9, h10⟩⟩
def rootE (n : Nat) (o : Option Sta) (e : Ending) (w : World) : Prop := ∃ (v : RV) (bo : Bool), e = .returned (.tuple #[v.v, .bool bo]) ∧ RootF n o v bo w
theorem RootF.none_ (n : Nat) (w : World) : RootF n none RV.zero false w := ⟨fun _ => ⟨rfl, rfl⟩, fun _ h => by cases h⟩
theorem RootF.mk_ {n : Nat} {V : RV} {w : World} {s : Sta} {A : Option Addr} (us : List Bool) (h1 : V.root = s.root) (h2 : V.num = s.num) (h3 : SlR (fun _ => True) w V.m s.mt) (h4 : V.u = ⟨A, n + 1, n + 1⟩) (hn : n ≤ 1023) (h7 : RL w 1 A (n + 1) (us.map Value.bool)) (h8 : us.length = n + 1) (h9 : ∀ i, i ≤ n → us[i]?.getD false = bit s.nu i) : RootF n (some s) V true w :=
  ⟨fun h => (by cases h), fun t ht => by
    cases ht
    rw [h4]
    exact ⟨rfl, h1, h2, h3, rfl, Nat.le_refl _, by show n + 1 ≤ _; omega, us, h7, h8, h9⟩⟩
theorem stored_short {Ds r pages : Nat} {Db : List UInt8} (h : Db.length < 236) : storedOf ⟨0, Ds, 2, Db, 0⟩ r pages = none := by
  unfold storedOf
  dsimp only
  split
  · rfl
  · split
    · rfl
    · rw [if_pos (.inr (by omega))]

set_option maxHeartbeats 16000000 in
theorem refRoot_any (A : Option Addr) (c : Nat) (l : List UInt8) (par n : Nat) (w : World) (hb : RB w A 1024 l) (hc : 1024 ≤ c) (hm : c ≤ 9223372036854775807) (hpar : par < 2) (hn : n ≤ 1023) :
    Calls Tryd.prog 31 #[.slice A 1024 c, .int .i64 par, .int .i64 n] w fun e w' => rootE n (storedOf (decoded l) par n) e w' ∧ Below w.heap.size w w' := by
  have HDec := hid (fun w1 (hb1 : Below w.heap.size w w1) => refDec_any A 1024 c l w1 (RL.below hb hb1) hc hm)
  clear hb
  generalize decoded l = DD at *
  go_enter Tryd.func31, Tryd.ntmps31
  go_wp2_with ((with_reducible refine is_alloc 60 ?_); refine wp_allocB (w := w) _ arrRS ?_; intro w1 k1 b1 s1; go_frame)
  have l1 := k1.lt
  refine (HDec.out w1 b1).mono ?_
  clear HDec
  rintro e w2 ⟨q, rfl, hq, b2⟩
  have kS2 := k1.keep b2
  have B2 := b1.trans (b2.mono b1.size)
  have l2 : w.heap.size < w2.heap.size := kS2.lt
  clear b1 b2 s1 k1 l1
  obtain ⟨gs, hgse⟩ : ∃ z, w.heap.size = z := ⟨_, rfl⟩
  have hgs : w.heap.size ≤ gs := by omega
  rw [hgse] at kS2 l2 ⊢
  unfold Pg.v pageV
  go_upto_region 2 with (first
    | ((with_reducible refine is_alloc 114 ?_); refine wp_allocB (w := w2) _ arrRef ?_; intro w3 k3 b3 s3; go_frame)
    | ((with_reducible refine is_store 114 ?_); refine wp_storeB w2.heap.size _ _ q.cs k3 refPageN rfl (pg_one _) rfl rfl ?_; intro w8 k8 r8; go_frame))
  have hr8 : Reads w8 q DD := (hq.below b3).apart k3 (pg_noby _) r8
  have kS := (kS2.keep b3).grown r8 (by simp; omega)
  have hs2 := B2.size
  have HB := (B2.trans (b3.mono B2.size)).grown r8 (B2.trans (b3.mono B2.size)).size (fun z hz => by cases hz; exact hs2)
  clear kS2 b3 s3 k3 r8 B2 hq
  obtain ⟨gp, hgp⟩ : ∃ z, w2.heap.size = z := ⟨_, rfl⟩
  rw [hgp] at k8 l2 ⊢
  clear hgp
  have hrb := hr8.ok.rb
  have hlen := hrb.len
  have hnc := hr8.ok.nc
  have hcm := hr8.ok.cm
  have hst := hr8.ok.s
  have ei := hr8.id
  have es := hr8.stamp
  have ek := hr8.kind
  have el := hr8.body
  obtain ⟨qi, qs, qk, qA, qn, qc, ql⟩ := q
  dsimp only at ei es ek el hlen hnc hcm hst hrb
  subst ei es ek el
  unfold Pg.cs at k8
  dsimp only at k8
  obtain ⟨y0, y1, y2, y3⟩ := k8.c4
  have l8 := k8.lt
  have lS := kS.lt
  clear hr8
  obtain ⟨Di, Ds, Dkk, Db, De⟩ := DD
  dsimp only at *
  obtain ⟨r, hr⟩ : ∃ z, Ds % 2 = z := ⟨_, rfl⟩
  have em : (Ds : Int).tmod 2 = (r : Int) := by rw [Int.tmod_eq_emod_of_nonneg (by omega)]; omega
  have em2 := IntWalk.i64_in (r : Int) (by omega)
  have HRr := hid hr
  clear hr
  by_cases a0 : De = 0
  rotate_left
  · have HE : Hid (storedOf ⟨Di, Ds, Dkk, Db, De⟩ par n = none) := hid (by unfold storedOf; rw [if_pos (.inl a0)])
    go_wp2_with ((with_reducible refine is_store 60 ?_); refine wp_storeR gs _ RV.zero kS rfl rfl rfl ?_; intro wz kz rz; go_frame)
    refine bodyPost_ret (results_R2 Tryd.results31 _ _ gs RV.zero rfl kz) rfl ?_
    rw [HE.out]
    have HBz := HB.grown rz HB.size (fun z hz => by cases hz; exact hgs)
    exact ⟨⟨_, _, rfl, RootF.none_ n wz⟩, by first | exact HBz | (rw [hgse] at HBz; exact HBz)⟩
  subst a0
  by_cases a1 : Di = 0
  rotate_left
  · have HE : Hid (storedOf ⟨Di, Ds, Dkk, Db, 0⟩ par n = none) := hid (by unfold storedOf; rw [if_pos (.inr (.inl a1))])
    go_wp2_with ((with_reducible refine is_store 60 ?_); refine wp_storeR gs _ RV.zero kS rfl rfl rfl ?_; intro wz kz rz; go_frame)
    refine bodyPost_ret (results_R2 Tryd.results31 _ _ gs RV.zero rfl kz) rfl ?_
    rw [HE.out]
    have HBz := HB.grown rz HB.size (fun z hz => by cases hz; exact hgs)
    exact ⟨⟨_, _, rfl, RootF.none_ n wz⟩, by first | exact HBz | (rw [hgse] at HBz; exact HBz)⟩
  subst a1
  by_cases a2 : Dkk = 2
  rotate_left
  · have HE : Hid (storedOf ⟨0, Ds, Dkk, Db, 0⟩ par n = none) := hid (by unfold storedOf; rw [if_pos (.inr (.inr (.inl a2)))])
    go_wp2_with ((with_reducible refine is_store 60 ?_); refine wp_storeR gs _ RV.zero kS rfl rfl rfl ?_; intro wz kz rz; go_frame)
    refine bodyPost_ret (results_R2 Tryd.results31 _ _ gs RV.zero rfl kz) rfl ?_
    rw [HE.out]
    have HBz := HB.grown rz HB.size (fun z hz => by cases hz; exact hgs)
    exact ⟨⟨_, _, rfl, RootF.none_ n wz⟩, by first | exact HBz | (rw [hgse] at HBz; exact HBz)⟩
  subst a2
  by_cases a3 : Ds = 0
  · have HE : Hid (storedOf ⟨0, Ds, 2, Db, 0⟩ par n = none) := hid (by unfold storedOf; rw [if_pos (.inr (.inr (.inr (.inl a3))))])
    have t3 : (Ds : Int) < 1 := by omega
    go_wp2_with ((with_reducible refine is_store 60 ?_); refine wp_storeR gs _ RV.zero kS rfl rfl rfl ?_; intro wz kz rz; go_frame)
    refine bodyPost_ret (results_R2 Tryd.results31 _ _ gs RV.zero rfl kz) rfl ?_
    rw [HE.out]
    have HBz := HB.grown rz HB.size (fun z hz => by cases hz; exact hgs)
    exact ⟨⟨_, _, rfl, RootF.none_ n wz⟩, by first | exact HBz | (rw [hgse] at HBz; exact HBz)⟩
  have t3 : ¬ (Ds : Int) < 1 := by omega
  by_cases a4 : r = par
  rotate_left
  · have HE : Hid (storedOf ⟨0, Ds, 2, Db, 0⟩ par n = none) := hid (by unfold storedOf; rw [if_pos (.inr (.inr (.inr (.inr (by show Ds % 2 ≠ par; rw [HRr.out]; exact a4)))))])
    have b4 : ((r : Int) != (par : Int)) = true := by rw [bne_iff_ne]; omega
    go_wp2_with ((with_reducible refine is_store 60 ?_); refine wp_storeR gs _ RV.zero kS rfl rfl rfl ?_; intro wz kz rz; go_frame)
    refine bodyPost_ret (results_R2 Tryd.results31 _ _ gs RV.zero rfl kz) rfl ?_
    rw [HE.out]
    have HBz := HB.grown rz HB.size (fun z hz => by cases hz; exact hgs)
    exact ⟨⟨_, _, rfl, RootF.none_ n wz⟩, by first | exact HBz | (rw [hgse] at HBz; exact HBz)⟩
  subst a4
  have b4 : ((r : Int) != (r : Int)) = false := bne_self_eq_false _
  by_cases a5 : qn < 236
  · have HE : Hid (storedOf ⟨0, Ds, 2, Db, 0⟩ r n = none) := hid (stored_short (by omega))
    have t5 : (qn : Int) < 236 := by omega
    go_wp2_with ((with_reducible refine is_store 60 ?_); refine wp_storeR gs _ RV.zero kS rfl rfl rfl ?_; intro wz kz rz; go_frame)
    refine bodyPost_ret (results_R2 Tryd.results31 _ _ gs RV.zero rfl kz) rfl ?_
    rw [HE.out]
    have HBz := HB.grown rz HB.size (fun z hz => by cases hz; exact hgs)
    exact ⟨⟨_, _, rfl, RootF.none_ n wz⟩, by first | exact HBz | (rw [hgse] at HBz; exact HBz)⟩
  have t5 : ¬ (qn : Int) < 236 := by omega
  obtain ⟨bb, oo, rfl, hbb, hcc⟩ := hrb.2 (by omega)
  clear hcc
  have nbS : ¬ bb = gs := RB.ne_of hrb (by omega) kS (rv_noby _)
  have nbP : ¬ bb = gp := RB.ne_of hrb (by omega) k8 (by
    intro v hv y
    simp only [List.mem_cons, List.not_mem_nil, or_false] at hv
    rcases hv with rfl | rfl | rfl | rfl <;> (intro h; unfold byV at h; cases h))
  obtain ⟨m, hm⟩ : ∃ z, mlen Db = z := ⟨_, rfl⟩
  have hm2 : m < 65536 := by
    rw [← hm]
    have := num_lt ((Db.drop 2).take 2)
    have hl : ((Db.drop 2).take 2).length ≤ 2 := by simp; omega
    have h2 : (256 : Nat) ^ ((Db.drop 2).take 2).length ≤ 256 ^ 2 := Nat.pow_le_pow_right (by omega) hl
    exact Nat.lt_of_lt_of_le this (by omega)
  have HM := hid hm
  obtain ⟨root, hroot⟩ : ∃ z, num (Db.take 2) = z := ⟨_, rfl⟩
  have hroot2 : root < 65536 := by
    rw [← hroot]
    have := num_lt (Db.take 2)
    have hl : (Db.take 2).length ≤ 2 := by simp; omega
    have h2 : (256 : Nat) ^ (Db.take 2).length ≤ 256 ^ 2 := Nat.pow_le_pow_right (by omega) hl
    exact Nat.lt_of_lt_of_le this (by omega)
  have HROOT := hid hroot
  have HNum : Hid (∀ wx, RB wx (some ⟨bb, oo, none⟩) qn Db → Calls Tryd.prog 56 #[.slice (some ⟨bb, oo, none⟩) qn qc] wx fun e w' => e = .returned (.int .i64 root) ∧ Below wx.heap.size wx w') := hid fun wx h => by
    have := number13_any (some ⟨bb, oo, none⟩) qn qc Db wx h (by omega)
    rwa [hroot] at this
  have HNum2 : Hid (∀ wx, RB wx (some ⟨bb, oo, none⟩) qn Db → Calls Tryd.prog 56 #[.slice (some ⟨bb, oo + 2, none⟩) (qn - 2) (qc - 2)] wx fun e w' => e = .returned (.int .i64 m) ∧ Below wx.heap.size wx w') := hid fun wx h => by
    have := number13_any (some ⟨bb, oo + 2, none⟩) (qn - 2) (qc - 2) (Db.drop 2) wx (h.tail 2 (qn - 2) (by omega)) (by omega)
    rwa [show num ((Db.drop 2).take 2) = m from hm] at this
  clear hm hroot
  have ks2 : ∀ wx, (Instr.slice 40 (.slice (some ⟨bb, oo, none⟩) qn qc) (some (.int .i64 2)) none none).run Tryd.prog wx = .ok (.slice (some ⟨bb, oo + 2, none⟩) (qn - 2) (qc - 2)) wx := fun wx => by
    have := run_from (P := Tryd.prog) 40 5 Tryd.underlying40 slN.2.1 (some ⟨bb, oo, none⟩) qn qc 2 .i64 2 rfl (by omega) wx
    rw [if_neg (by omega)] at this
    simpa [add_spot] using this
  go_wp2_with fail
  refine (rnew_blk n w8 hn).mono ?_
  rintro e w10 ⟨gu, gk, g9, rfl, ku, hgu8, b10⟩
  have hgu : w.heap.size ≤ gu := by have := HB.size; omega
  have kS10 := kS.keep b10
  have k10 := k8.keep b10
  have hrb10 := RL.below hrb b10
  have HB10 := HB.trans (b10.mono HB.size)
  have hbb10 := Nat.lt_of_lt_of_le hbb b10.size
  clear b10 kS k8 hrb HB y0 y1 y2 y3 l8 lS hbb
  have lS := kS10.lt
  have lP := k10.lt
  have lu := ku.lt
  have nuS : ¬ gu = gs := Blk.ne13 ku kS10 (by decide)
  have nuP : ¬ gu = gp := Blk.ne13 ku k10 (by decide)
  have hs10 := HB10.size
  simp only [RV.v, Sl.v]
  obtain ⟨gn, hgn⟩ : ∃ z, w10.heap.size = z := ⟨_, rfl⟩
  go_wp2_with (first
    | ((with_reducible refine is_alloc 60 ?_); refine wp_allocB (w := w10) _ arrRS ?_; intro w11 k11 b11 s11; go_frame)
    | ((with_reducible refine is_store 60 ?_); refine wp_storeR w10.heap.size _ ⟨n, 0, 1, Sl.zero, ⟨some ⟨gu, 0, none⟩, n + 1, n + 1⟩, ⟨some ⟨gk, 0, none⟩, n + 1, n + 1⟩, ⟨some ⟨g9, 0, none⟩, n + 1, n + 1⟩⟩ k11 rfl rfl rfl ?_; intro w12 kn r12; go_frame))
  have kS12 := (kS10.keep b11).grown r12 (by simp; omega)
  have k8 := (k10.keep b11).grown r12 (by simp; omega)
  have ku12 := (ku.keep b11).grown r12 (by simp; omega)
  have hrb12 := RB.off (RL.below hrb10 b11) r12 (by omega)
  have HB12 := (HB10.trans (b11.mono HB10.size)).grown r12 (HB10.trans (b11.mono HB10.size)).size (fun z hz => by cases hz; exact hs10)
  rw [hgn] at kn lS lP lu hs10 hbb10 ⊢
  clear hgn b11 s11 k11 r12 kS10 k10 ku hrb10 HB10
  have ln := kn.lt
  have HG := hid (fun wx (hb : Below w12.heap.size w12 wx) => HNum.out wx (RL.below hrb12 hb))
  go_cut [55] (fun _ wx => Blk wx gn 60 (RV.mk n root Ds Sl.zero ⟨some ⟨gu, 0, none⟩, n + 1, n + 1⟩ ⟨some ⟨gk, 0, none⟩, n + 1, n + 1⟩ ⟨some ⟨g9, 0, none⟩, n + 1, n + 1⟩).cs ∧ Blk wx gs 60 RV.zero.cs ∧ Blk wx gp 114 [.int .i64 0, .int .u64 Ds, .int .i64 2, .slice (some ⟨bb, oo, none⟩) qn qc] ∧ Blk wx gu 4 (List.replicate (n + 1) (Value.bool false)) ∧ RB wx (some ⟨bb, oo, none⟩) qn Db ∧ Below w.heap.size w wx)
  case first =>
    obtain ⟨x0, x1, x2, x3⟩ := k8.c4
    have lx8 := k8.lt
    go_region_law (go_simp; go_at_call 56; refine (HG.out _ (Below.refl _ _).drew).mono ?_; rintro e w13 ⟨rfl, b13⟩; have c13 := (Below.refl w12.heap.size w12).drew.trans b13; have kn3 := kn.keep c13; have k83 := k8.keep c13; obtain ⟨y0, y1, y2, y3⟩ := k83.c4; have ly := k83.lt; have ln3 := kn3.lt; have fz := kn3.fz; have cn1 : w13.cell? ⟨gn, 1, none⟩ = some (.int .i64 ((0 : Nat) : Int)) := kn3.cell 1; have cn2 : w13.cell? ⟨gn, 2, none⟩ = some (.int .u64 ((1 : Nat) : Int)) := kn3.cell 2; have s1 := kn3.set_ 1 (.int .i64 (root : Int)); have g1 := kn3.setg 1 (.int .i64 (root : Int)); have k84 := k83.grown g1 (by simp; omega); obtain ⟨z0, z1, z2, z3⟩ := k84.c4; have lz := k84.lt; have fs := s1.fz; have ls := s1.lt; have cs2 : (w13.setCell ⟨gn, 1, none⟩ (.int .i64 (root : Int))).cell? ⟨gn, 2, none⟩ = some (.int .u64 ((1 : Nat) : Int)) := s1.cell 2)
    all_goals
      (have s2 := s1.set_ 2 (.int .u64 (Ds : Int))
       have g2 := s1.setg 2 (.int .u64 (Ds : Int))
       have kSz := ((kS12.keep c13).grown g1 (by simp; omega)).grown g2 (by simp; omega)
       have k8z := k84.grown g2 (by simp; omega)
       have kuz := ((ku12.keep c13).grown g1 (by simp; omega)).grown g2 (by simp; omega)
       have hrbz := RB.off (RB.off (RL.below hrb12 c13) g1 (by omega)) g2 (by omega)
       have B13 := HB12.trans (c13.mono HB12.size)
       have B14 := B13.grown g1 B13.size (fun z hz => by cases hz; exact hs10)
       have B15 := B14.grown g2 B14.size (fun z hz => by cases hz; exact hs10)
       try simp only [List.getElem_toArray, List.getElem_cons_succ, List.getElem_cons_zero]
       try go_frame
       try go_wp2_with fail
       go_meet
       case rel => exact ⟨s2, kSz, k8z, kuz, hrbz, B15⟩)
  case rest =>
    obtain ⟨kn, kS, k14, ku, hrb, HB⟩ := hcut
    clear kS12 k8 ku12 hrb12 HB12 HG HNum ln
    obtain ⟨y0, y1, y2, y3⟩ := k14.c4
    have l14 := k14.lt
    go_wp2_with fail
    refine (HNum2.out _ hrb).mono ?_
    clear ks2 y0 y1 y2 y3 l14
    rintro e w15 ⟨rfl, b15⟩
    replace kn := kn.keep b15
    replace kS := kS.keep b15
    replace ku := ku.keep b15
    replace k14 := k14.keep b15
    have hrb5 := RL.below hrb b15
    replace HB := HB.trans (b15.mono HB.size)
    clear b15 hrb HNum2
    have hrb : RB w15 (some ⟨bb, oo, none⟩) qn Db := hrb5
    clear hrb5
    obtain ⟨y0, y1, y2, y3⟩ := k14.c4
    have l14 := k14.lt
    have e1 := IntWalk.i64_in (236 + (m : Int)) (by omega)
    by_cases a6 : 256 < m
    · have HE : Hid (storedOf ⟨0, Ds, 2, Db, 0⟩ r n = none) := hid (by unfold storedOf; rw [if_neg (by simp [a3, HRr.out]), if_neg (by show ¬ Db.length < 108; omega), if_pos (.inl (by rw [HM.out]; exact a6))])
      have t6 : (m : Int) > 256 := by omega
      go_wp2_with ((with_reducible refine is_store 60 ?_); refine wp_storeR gs _ RV.zero kS rfl rfl rfl ?_; intro wz kz rz; go_frame)
      refine bodyPost_ret (results_R2 Tryd.results31 _ _ gs RV.zero rfl kz) rfl ?_
      rw [HE.out]
      have HBz := HB.grown rz HB.size (fun z hz => by cases hz; exact hgs)
      exact ⟨⟨_, _, rfl, RootF.none_ n wz⟩, by first | exact HBz | (rw [hgse] at HBz; exact HBz)⟩
    have t6 : ¬ (m : Int) > 256 := by omega
    by_cases a7 : qn = 108 + m + 128
    rotate_left
    · have HE : Hid (storedOf ⟨0, Ds, 2, Db, 0⟩ r n = none) := hid (by unfold storedOf; rw [if_neg (by simp [a3, HRr.out]), if_neg (by show ¬ Db.length < 108; omega), if_pos (.inr (by rw [HM.out]; show Db.length ≠ _; omega))])
      have t7 : ((qn : Int) != 236 + (m : Int)) = true := by rw [bne_iff_ne]; omega
      go_wp2_with ((with_reducible refine is_store 60 ?_); refine wp_storeR gs _ RV.zero kS rfl rfl rfl ?_; intro wz kz rz; go_frame)
      refine bodyPost_ret (results_R2 Tryd.results31 _ _ gs RV.zero rfl kz) rfl ?_
      rw [HE.out]
      have HBz := HB.grown rz HB.size (fun z hz => by cases hz; exact hgs)
      exact ⟨⟨_, _, rfl, RootF.none_ n wz⟩, by first | exact HBz | (rw [hgse] at HBz; exact HBz)⟩
    have t7 : ((qn : Int) != 236 + (m : Int)) = false := by rw [bne_eq_false_iff_eq]; omega
    have HQ := hid a7
    clear a7
    go_wp2_with fail
    go_loopw [12] (fun iv wr => ∃ j : Nat, 4 ≤ j ∧ j ≤ 108 ∧ iv = .int .i64 (j : Int) ∧ wr = w15 ∧ Hid (∀ t, 4 ≤ t → t < j → Db[t]? = some 0)) (fun iv _ => 108 - (intOf iv).toNat)
    case atStart => exact ⟨4, by omega, by omega, rfl, by first | rfl | trivial, hid (fun t h1 h2 => absurd h1 (by omega))⟩
    case round =>
      obtain ⟨j, hj4, hj, rfl, rfl, HZ4⟩ := hrel
      have ej := IntWalk.i64_in ((j : Int) + 1) (by omega)
      by_cases hlt : j < 108
      · have tj : (j : Int) < 108 := by omega
        have tj2 : (j : Int) < (qn : Int) := by have := HQ.out; omega
        obtain ⟨x, hx⟩ : ∃ x, Db[j]? = some x := ⟨_, List.getElem?_eq_getElem (by rw [hlen, HQ.out]; omega)⟩
        have hc : wr.cell? ⟨bb, oo + j, none⟩ = some (.int .u8 (N8 x)) := by
          obtain ⟨b', o', e, _, h2⟩ := hrb.2 (by omega)
          cases e
          exact h2 j (byV x) (by rw [List.getElem?_map, hx]; rfl)
        have HX := hid hx
        clear hx
        by_cases hx0 : x = 0
        · have ex : (N8 x != 0) = false := by rw [hx0]; rfl
          have HX0 := hid hx0
          clear hx0
          go_wp2_with fail
          go_roundw
          case measure => simp [intOf]; omega
          case rel =>
            refine ⟨j + 1, by omega, by omega, by go_num, by first | rfl | trivial, hid (fun t h1 h2 => ?_)⟩
            by_cases h : t = j
            · rw [h, HX.out, HX0.out]
            · exact HZ4.out t h1 (by omega)
        · have ex : (N8 x != 0) = true := by
            rw [bne_iff_ne]
            intro h
            apply hx0
            unfold N8 at h
            have : x.toNat = 0 := by omega
            exact UInt8.toNat_inj.1 this
          have HE : Hid (storedOf ⟨0, Ds, 2, Db, 0⟩ r n = none) := hid (by
            unfold storedOf
            rw [if_neg (by simp [a3, HRr.out]), if_neg (by show ¬ Db.length < 108; omega), if_neg (by rw [HM.out]; have := HQ.out; show ¬ (256 < m ∨ Db.length ≠ _); omega), if_pos]
            intro h
            have h2 : ((Db.drop 4).take 104)[j - 4]? = some 0 := by rw [h, List.getElem?_replicate, if_pos (by omega)]
            rw [List.getElem?_take, if_pos (by omega), List.getElem?_drop, show 4 + (j - 4) = j by omega, HX.out] at h2
            exact hx0 (Option.some.inj h2))
          clear hx0
          go_wp2_with ((with_reducible refine is_store 60 ?_); refine wp_storeR gs _ RV.zero kS rfl rfl rfl ?_; intro wz kz rz; go_frame)
          refine bodyPost_ret (results_R2 Tryd.results31 _ _ gs RV.zero rfl kz) rfl ?_
          rw [HE.out]
          have HBz := HB.grown rz HB.size (fun z hz => by cases hz; exact hgs)
          exact ⟨⟨_, _, rfl, RootF.none_ n wz⟩, by first | exact HBz | (rw [hgse] at HBz; exact HBz)⟩
      · obtain rfl : j = 108 := by omega
        have HZZ : Hid ((Db.drop 4).take 104 = List.replicate 104 0) := hid (by
          apply List.ext_getElem?
          intro t
          rw [List.getElem?_take, List.getElem?_replicate, List.getElem?_drop]
          split
          · rename_i ht
            exact HZ4.out (4 + t) (by omega) (by omega)
          · rfl)
        clear HZ4 ej
        obtain ⟨mt, hmt⟩ : ∃ z, (Db.drop 108).take m = z := ⟨_, rfl⟩
        obtain ⟨cu, hcu⟩ : ∃ z, Db.drop (108 + m) = z := ⟨_, rfl⟩
        have hq := HQ.out
        have hcul : cu.length = 128 := by rw [← hcu, List.length_drop, hlen, hq]; omega
        have HS0 := hid (stored_end Ds r n m root Db mt cu a3 HRr.out (by omega) (by omega) HM.out HZZ.out HROOT.out hmt hcu)
        have HMT := hid hmt
        have HCU := hid hcu
        clear hmt hcu
        have e2 := IntWalk.i64_in (108 + (m : Int)) (by omega)
        have ks5 : ∀ wx, (Instr.slice 40 (.slice (some ⟨bb, oo, none⟩) qn qc) (some (.int .i64 108)) (some (.int .i64 (108 + (m : Int)))) none).run Tryd.prog wx = .ok (.slice (some ⟨bb, oo + 108, none⟩) m (qc - 108)) wx := fun wx => by
          have := run_part (P := Tryd.prog) 40 5 Tryd.underlying40 slN.2.1 (some ⟨bb, oo, none⟩) qn qc 108 (108 + m) .i64 .i64 108 (108 + (m : Int)) rfl (by omega) (by omega) (by omega) wx
          rw [if_neg (by omega), show 108 + m - 108 = m by omega] at this
          simpa [add_spot] using this
        have ln := kn.lt
        clear hq
        go_wp2_with ((with_reducible refine is_store 40 ?_); refine wp_store1 gn 3 _ _ (.slice (some ⟨bb, oo + 108, none⟩) m (qc - 108)) kn rfl slN.2.1 (by simp [RV.cs]) rfl rfl rfl ?_; intro w16 kn16 r16; go_frame)
        obtain ⟨V2, hV2⟩ : ∃ z : RV, RV.mk n root Ds ⟨some ⟨bb, oo + 108, none⟩, m, qc - 108⟩ ⟨some ⟨gu, 0, none⟩, n + 1, n + 1⟩ ⟨some ⟨gk, 0, none⟩, n + 1, n + 1⟩ ⟨some ⟨g9, 0, none⟩, n + 1, n + 1⟩ = z := ⟨_, rfl⟩
        have kn6 : Blk w16 gn 60 (RV.mk n root Ds ⟨some ⟨bb, oo + 108, none⟩, m, qc - 108⟩ ⟨some ⟨gu, 0, none⟩, n + 1, n + 1⟩ ⟨some ⟨gk, 0, none⟩, n + 1, n + 1⟩ ⟨some ⟨g9, 0, none⟩, n + 1, n + 1⟩).cs := kn16
        have kS6 := kS.grown r16 (by simp; omega)
        have ku6 := ku.grown r16 (by simp; omega)
        have k86 := k14.grown r16 (by simp; omega)
        have hrb6 := RB.off hrb r16 (by omega)
        have HB6 := HB.grown r16 HB.size (fun z hz => by cases hz; exact hs10)
        clear kn kn16 kS ku k14 hrb HB r16 y0 y1 y2 y3 l14 ks5 hV2
        go_loopw [13] (fun iv wq => ∃ (k : Nat) (us : List Bool), k ≤ 1024 ∧ iv = .int .i64 (k : Int) ∧ us.length = n + 1 ∧ Blk wq gu 4 (us.map Value.bool) ∧ Hid (∀ i, i ≤ n → us[i]?.getD false = (decide (i < k) && bit cu i)) ∧ Hid (∀ j, j < k → bit cu j = true → 1 ≤ j ∧ j ≤ n) ∧ Blk wq gn 60 (RV.mk n root Ds ⟨some ⟨bb, oo + 108, none⟩, m, qc - 108⟩ ⟨some ⟨gu, 0, none⟩, n + 1, n + 1⟩ ⟨some ⟨gk, 0, none⟩, n + 1, n + 1⟩ ⟨some ⟨g9, 0, none⟩, n + 1, n + 1⟩).cs ∧ Blk wq gs 60 RV.zero.cs ∧ Blk wq gp 114 [.int .i64 0, .int .u64 Ds, .int .i64 2, .slice (some ⟨bb, oo, none⟩) qn qc] ∧ RB wq (some ⟨bb, oo, none⟩) qn Db ∧ Below w.heap.size w wq) (fun iv _ => 1024 - (intOf iv).toNat)
        case atStart => exact ⟨0, List.replicate (n + 1) false, by omega, rfl, List.length_replicate, by rw [List.map_replicate]; exact ku6, hid (fun i hi => by rw [List.getElem?_replicate, if_pos (by omega)]; simp), hid (fun j hj => absurd hj (by omega)), kn6, kS6, k86, hrb6, HB6⟩
        case round =>
          clear kn6 kS6 ku6 k86 hrb6 HB6
          obtain ⟨k, us, hk, rfl, hul, ku, HUs, HW, kn, kS, k8, hrb, HB⟩ := hrel
          have nbu : ¬ bb = gu := RB.ne_of hrb (by omega) ku (bools_noby us)
          obtain ⟨y0, y1, y2, y3⟩ := k8.c4
          have l8 := k8.lt
          have lu2 := ku.lt
          have ln2 := kn.lt
          have z1 : wr.cell? ⟨gn, 1, none⟩ = some (.int .i64 (root : Int)) := kn.cell 1
          have z4 : wr.cell? ⟨gn, 4, none⟩ = some (.slice (some ⟨gu, 0, none⟩) (n + 1) (n + 1)) := kn.cell 4
          have ek := IntWalk.i64_in ((k : Int) + 1) (by omega)
          by_cases hlt : k < 1024
          · have tk : (k : Int) < 1024 := by omega
            obtain ⟨qq, hqq⟩ : ∃ z, k / 8 = z := ⟨_, rfl⟩
            obtain ⟨rr, hrr⟩ : ∃ z, k % 8 = z := ⟨_, rfl⟩
            have e3 : (k : Int).tdiv 8 = (qq : Int) := by rw [Int.tdiv_eq_ediv_of_nonneg (by omega)]; omega
            have e4 : (k : Int).tmod 8 = (rr : Int) := by rw [Int.tmod_eq_emod_of_nonneg (by omega)]; omega
            have e5 := IntWalk.i64_in (qq : Int) (by omega)
            have e6 := IntWalk.i64_in (rr : Int) (by omega)
            have hq8 : qq < 128 := by omega
            have hr8 : rr < 8 := by omega
            obtain ⟨ix, hix⟩ : ∃ z, 108 + m + qq = z := ⟨_, rfl⟩
            have e7 : (108 : Int) + (m : Int) + (qq : Int) = (ix : Int) := by omega
            have e8 := IntWalk.i64_in (ix : Int) (by omega)
            have tix : (ix : Int) < (qn : Int) := by have := HQ.out; omega
            obtain ⟨x, hx⟩ : ∃ x, Db[ix]? = some x := ⟨_, List.getElem?_eq_getElem (by rw [hlen, HQ.out]; omega)⟩
            have hc : wr.cell? ⟨bb, oo + ix, none⟩ = some (.int .u8 (N8 x)) := by
              obtain ⟨b', o', e, _, h2⟩ := hrb.2 (by omega)
              cases e
              exact h2 ix (byV x) (by rw [List.getElem?_map, hx]; rfl)
            have hbx : bit cu k = bitB x rr := by
              unfold bit
              rw [hqq, hrr, ← HCU.out, List.getElem?_drop, hix, hx]
              rfl
            obtain ⟨sh, hsh⟩ : ∃ z, x.toNat / 2 ^ rr = z := ⟨_, rfl⟩
            have hsh2 : sh < 256 := by rw [← hsh]; exact Nat.lt_of_le_of_lt (Nat.div_le_self _ _) (UInt8.toNat_lt x)
            have e9 : N8 x / 2 ^ rr = (sh : Int) := by
              rw [← hsh]
              show (x.toNat : Int) / 2 ^ rr = ((x.toNat / 2 ^ rr : Nat) : Int)
              push_cast
              rfl
            have e10 : IntKind.u8.wrap (sh : Int) = (sh : Int) := IntWalk.u8_in _ (by omega)
            obtain ⟨bt, hbt⟩ : ∃ z, sh % 2 = z := ⟨_, rfl⟩
            have e11 : (sh : Int).tmod 2 = (bt : Int) := by rw [Int.tmod_eq_emod_of_nonneg (by omega)]; omega
            have hbk : bit cu k = (bt == 1) := by rw [hbx]; unfold bitB; rw [hsh, hbt]
            have HBK := hid hbk
            clear hbk hbx hx hix hqq hrr hsh hbt
            by_cases hb1 : bt = 1
            · have t1 : ((bt : Int) == 1) = true := by rw [beq_iff_eq]; omega
              have HB1 := hid hb1
              clear hb1
              by_cases h0 : k < 1
              · have HE : Hid (storedOf ⟨0, Ds, 2, Db, 0⟩ r n = none) := hid (by
                  refine HS0.out.1 ?_
                  intro hw
                  have := (hw k hlt (by rw [HBK.out, HB1.out]; rfl)).1
                  omega)
                have tk0 : (k : Int) < 1 := by omega
                go_wp2_with ((with_reducible refine is_store 60 ?_); refine wp_storeR gs _ RV.zero kS rfl rfl rfl ?_; intro wz kz rz; go_frame)
                refine bodyPost_ret (results_R2 Tryd.results31 _ _ gs RV.zero rfl kz) rfl ?_
                rw [HE.out]
                have HBz := HB.grown rz HB.size (fun z hz => by cases hz; exact hgs)
                exact ⟨⟨_, _, rfl, RootF.none_ n wz⟩, by first | exact HBz | (rw [hgse] at HBz; exact HBz)⟩
              · have tk0 : ¬ (k : Int) < 1 := by omega
                by_cases h1 : n < k
                · have HE : Hid (storedOf ⟨0, Ds, 2, Db, 0⟩ r n = none) := hid (by
                    refine HS0.out.1 ?_
                    intro hw
                    have := (hw k hlt (by rw [HBK.out, HB1.out]; rfl)).2
                    omega)
                  have tk1 : (k : Int) > (n : Int) := by omega
                  go_wp2_with ((with_reducible refine is_store 60 ?_); refine wp_storeR gs _ RV.zero kS rfl rfl rfl ?_; intro wz kz rz; go_frame)
                  refine bodyPost_ret (results_R2 Tryd.results31 _ _ gs RV.zero rfl kz) rfl ?_
                  rw [HE.out]
                  have HBz := HB.grown rz HB.size (fun z hz => by cases hz; exact hgs)
                  exact ⟨⟨_, _, rfl, RootF.none_ n wz⟩, by first | exact HBz | (rw [hgse] at HBz; exact HBz)⟩
                · have tk1 : ¬ (k : Int) > (n : Int) := by omega
                  have tk2 : (k : Int) < ((n + 1 : Nat) : Int) := by omega
                  have tk3 : (k : Int) < (n : Int) + 1 := by omega
                  go_wp2_with ((with_reducible refine is_store 4 ?_); refine wp_store1 gu k _ _ (.bool true) ku rfl slN.2.2.2 (by rw [List.length_map]; omega) rfl rfl rfl ?_; intro w17 ku17 r17; go_frame)
                  have kn17 := kn.grown r17 (by simp; omega)
                  have kS17 := kS.grown r17 (by simp; omega)
                  have k87 := k8.grown r17 (by simp; omega)
                  have hrb7 := RB.off hrb r17 (by omega)
                  have HB7 := HB.grown r17 HB.size (fun z hz => by cases hz; exact hgu)
                  go_roundw
                  case measure => simp [intOf]; omega
                  case rel =>
                    refine ⟨k + 1, us.set k true, by omega, by go_num, by rw [List.length_set]; exact hul, by rw [List.map_set]; exact ku17, hid (fun i hi => ?_), hid (fun j hj hb => ?_), kn17, kS17, k87, hrb7, HB7⟩
                    · rw [List.getElem?_set]
                      by_cases h : k = i
                      · rw [if_pos h, if_pos (by omega), ← h]
                        have : bit cu k = true := by rw [HBK.out, HB1.out]; rfl
                        simp [this]
                      · rw [if_neg h, HUs.out i hi]
                        have : decide (i < k + 1) = decide (i < k) := by rw [decide_eq_decide]; omega
                        rw [this]
                    · by_cases h : j = k
                      · omega
                      · exact HW.out j (by omega) hb
            · have t1 : ((bt : Int) == 1) = false := by rw [beq_eq_false_iff_ne]; omega
              have HB1 := hid hb1
              clear hb1
              have hbf : bit cu k = false := by rw [HBK.out, beq_eq_false_iff_ne]; exact HB1.out
              have HBF := hid hbf
              clear hbf
              go_wp2_with fail
              go_roundw
              case measure => simp [intOf]; omega
              case rel =>
                refine ⟨k + 1, us, by omega, by go_num, hul, ku, hid (fun i hi => ?_), hid (fun j hj hb => ?_), kn, kS, k8, hrb, HB⟩
                · rw [HUs.out i hi]
                  by_cases h : i = k
                  · rw [h, HBF.out]; simp
                  · have : decide (i < k + 1) = decide (i < k) := by rw [decide_eq_decide]; omega
                    rw [this]
                · by_cases h : j = k
                  · rw [h, HBF.out] at hb
                    cases hb
                  · exact HW.out j (by omega) hb
          · obtain rfl : k = 1024 := by omega
            have HW2 : Hid (within cu n) := HW
            have HU2 : Hid (∀ i, i ≤ n → us[i]?.getD false = bit cu i) := hid (fun i hi => by rw [HUs.out i hi, decide_eq_true (by omega), Bool.true_and])
            clear HW HUs ek
            have tk : ¬ ((1024 : Nat) : Int) < 1024 := by omega
            have HSl : Hid (SlR (fun b => b = bb) wr ⟨some ⟨bb, oo + 108, none⟩, m, qc - 108⟩ mt) := hid ⟨⟨by
                have := RB.sub hrb 108 m (by have := HQ.out; omega)
                rw [HMT.out] at this
                exact this, fun b o hA _ => by cases hA; rfl⟩, by show m ≤ qc - 108; have := HQ.out; omega, by show qc - 108 ≤ _; omega⟩
            by_cases hr1 : root ≤ n
            rotate_left
            · have HE : Hid (storedOf ⟨0, Ds, 2, Db, 0⟩ r n = none) := hid (by
                refine HS0.out.2.1 HW2.out ?_
                rintro (h | ⟨h, _⟩)
                · omega
                · omega)
              have tr1 : (root : Int) > (n : Int) := by omega
              go_wp2_with (first
                | ((with_reducible refine is_store 57 ?_); refine wp_store1 gn 5 _ _ (.slice (some ⟨gu, 0, none⟩) (n + 1) (n + 1)) kn rfl slN.1 (by simp [RV.cs]) rfl rfl rfl ?_; intro w18 kn18 r18; go_frame; have kS8 := kS.grown r18 (by simp; omega); have y11 : w18.cell? ⟨gn, 1, none⟩ = some (.int .i64 (root : Int)) := kn18.cell 1; have ln8 := kn18.lt)
                | ((with_reducible refine is_store 60 ?_); refine wp_storeR gs _ RV.zero kS8 rfl rfl rfl ?_; intro wz kz rz; go_frame))
              refine bodyPost_ret (results_R2 Tryd.results31 _ _ gs RV.zero rfl kz) rfl ?_
              rw [HE.out]
              have HB8 := HB.grown r18 HB.size (fun z hz => by cases hz; exact hs10)
              have HBz := HB8.grown rz HB8.size (fun z hz => by cases hz; exact hgs)
              exact ⟨⟨_, _, rfl, RootF.none_ n wz⟩, by first | exact HBz | (rw [hgse] at HBz; exact HBz)⟩
            have tr1 : ¬ (root : Int) > (n : Int) := by omega
            obtain ⟨ub, hub⟩ : ∃ z, us[root]? = some z := ⟨_, List.getElem?_eq_getElem (by omega)⟩
            have hub2 : ub = bit cu root := by have := HU2.out root hr1; rw [hub] at this; exact this
            have cub : wr.cell? ⟨gu, root, none⟩ = some (.bool ub) := (ku.cell root).trans (by rw [List.getElem?_map, hub]; rfl)
            clear hub
            have HUB := hid hub2
            clear hub2
            have tr3 : (root : Int) < ((n + 1 : Nat) : Int) := by omega
            have tr4 : (root : Int) < (n : Int) + 1 := by omega
            by_cases hgood : root = 0 ∨ ub = true
            rotate_left
            · have hr0 : root ≠ 0 := fun h => hgood (.inl h)
              obtain rfl : ub = false := by cases ub with | false => rfl | true => exact absurd (.inr rfl) hgood
              have HE : Hid (storedOf ⟨0, Ds, 2, Db, 0⟩ r n = none) := hid (by
                refine HS0.out.2.1 HW2.out ?_
                rintro (h | ⟨_, h⟩)
                · exact hr0 h
                · rw [← HUB.out] at h; cases h)
              have tr0 : ((root : Int) != 0) = true := by rw [bne_iff_ne]; omega
              clear hgood hr0
              go_wp2_with (first
                | ((with_reducible refine is_store 57 ?_); refine wp_store1 gn 5 _ _ (.slice (some ⟨gu, 0, none⟩) (n + 1) (n + 1)) kn rfl slN.1 (by simp [RV.cs]) rfl rfl rfl ?_; intro w18 kn18 r18; go_frame; have kS8 := kS.grown r18 (by simp; omega); have y11 : w18.cell? ⟨gn, 1, none⟩ = some (.int .i64 (root : Int)) := kn18.cell 1; have y14 : w18.cell? ⟨gn, 4, none⟩ = some (.slice (some ⟨gu, 0, none⟩) (n + 1) (n + 1)) := kn18.cell 4; have ln8 := kn18.lt; have cu8 := r18.cell cub (by simp; omega); have lu8 := (ku.grown r18 (by simp; omega)).lt)
                | ((with_reducible refine is_store 60 ?_); refine wp_storeR gs _ RV.zero kS8 rfl rfl rfl ?_; intro wz kz rz; go_frame))
              refine bodyPost_ret (results_R2 Tryd.results31 _ _ gs RV.zero rfl kz) rfl ?_
              rw [HE.out]
              have HB8 := HB.grown r18 HB.size (fun z hz => by cases hz; exact hs10)
              have HBz := HB8.grown rz HB8.size (fun z hz => by cases hz; exact hgs)
              exact ⟨⟨_, _, rfl, RootF.none_ n wz⟩, by first | exact HBz | (rw [hgse] at HBz; exact HBz)⟩
            have HE : Hid (storedOf ⟨0, Ds, 2, Db, 0⟩ r n = some ⟨root, Ds, mt, cu⟩) := hid (by
              refine HS0.out.2.2 HW2.out ?_
              rcases hgood with h | h
              · exact .inl h
              · exact .inr ⟨hr1, by rw [← HUB.out]; exact h⟩)
            obtain ⟨V3, hV3⟩ : ∃ z : RV, RV.mk n root Ds ⟨some ⟨bb, oo + 108, none⟩, m, qc - 108⟩ ⟨some ⟨gu, 0, none⟩, n + 1, n + 1⟩ ⟨some ⟨gu, 0, none⟩, n + 1, n + 1⟩ ⟨some ⟨g9, 0, none⟩, n + 1, n + 1⟩ = z := ⟨_, rfl⟩
            have hgood2 : (((root : Int) != 0) = false) ∨ (((root : Int) != 0) = true ∧ ub = true) := by
              by_cases h : root = 0
              · left; rw [bne_eq_false_iff_eq]; omega
              · right; exact ⟨by rw [bne_iff_ne]; omega, hgood.resolve_left h⟩
            have HV3 := hid hV3
            clear hgood hV3
            rcases hgood2 with tr0 | ⟨tr0, rfl⟩
            · go_wp2_with (first
                | ((with_reducible refine is_store 57 ?_); refine wp_store1 gn 5 _ _ (.slice (some ⟨gu, 0, none⟩) (n + 1) (n + 1)) kn rfl slN.1 (by simp [RV.cs]) rfl rfl rfl ?_; intro w18 kn18 r18; go_frame; have kn9 : Blk w18 gn 60 V3.cs := (by rw [← HV3.out]; exact kn18); have kS8 := kS.grown r18 (by simp; omega); have y11 : w18.cell? ⟨gn, 1, none⟩ = some (.int .i64 (root : Int)) := kn18.cell 1; have y14 : w18.cell? ⟨gn, 4, none⟩ = some (.slice (some ⟨gu, 0, none⟩) (n + 1) (n + 1)) := kn18.cell 4; have ln8 := kn18.lt; have cu8 := r18.cell cub (by simp; omega); have lu8 := (ku.grown r18 (by simp; omega)).lt)
                | ((with_reducible refine is_load 60 ?_); refine wp_loadR gn V3 kn9 rfl ?_; go_frame)
                | ((with_reducible refine is_store 60 ?_); refine wp_storeR gs _ V3 kS8 rfl rfl rfl ?_; intro wz kz rz; go_frame))
              refine bodyPost_ret (results_R2 Tryd.results31 _ _ gs V3 rfl kz) rfl ?_
              rw [HE.out]
              have HB8 := HB.grown r18 HB.size (fun z hz => by cases hz; exact hs10)
              have hSl := ((HSl.out.grown r18 (fun g hg h => by cases hg; omega)).grown rz (fun g hg h => by cases hg; omega)).mono (N' := fun _ => True) (fun _ _ => trivial)
              have kuz := (ku.grown r18 (by simp; omega)).grown rz (by simp; omega)
              have f3 : V3.root = root ∧ V3.num = Ds ∧ V3.m = ⟨some ⟨bb, oo + 108, none⟩, m, qc - 108⟩ ∧ V3.u = ⟨some ⟨gu, 0, none⟩, n + 1, n + 1⟩ := by rw [← HV3.out]; exact ⟨rfl, rfl, rfl, rfl⟩
              have HBz := HB8.grown rz HB8.size (fun z hz => by cases hz; exact hgs)
              obtain ⟨g1, g2, g3, g4⟩ := f3
              rw [← g3] at hSl
              have kul := Blk.list kuz (show (us.map Value.bool).length = n + 1 by rw [List.length_map]; exact hul)
              have hRF : RootF n (some ⟨root, Ds, mt, cu⟩) V3 true wz := RootF.mk_ us g1 g2 hSl g4 hn kul hul HU2.out
              exact ⟨⟨V3, true, rfl, hRF⟩, by first | exact HBz | (rw [hgse] at HBz; exact HBz)⟩
            · go_wp2_with (first
                | ((with_reducible refine is_store 57 ?_); refine wp_store1 gn 5 _ _ (.slice (some ⟨gu, 0, none⟩) (n + 1) (n + 1)) kn rfl slN.1 (by simp [RV.cs]) rfl rfl rfl ?_; intro w18 kn18 r18; go_frame; have kn9 : Blk w18 gn 60 V3.cs := (by rw [← HV3.out]; exact kn18); have kS8 := kS.grown r18 (by simp; omega); have y11 : w18.cell? ⟨gn, 1, none⟩ = some (.int .i64 (root : Int)) := kn18.cell 1; have y14 : w18.cell? ⟨gn, 4, none⟩ = some (.slice (some ⟨gu, 0, none⟩) (n + 1) (n + 1)) := kn18.cell 4; have ln8 := kn18.lt; have cu8 := r18.cell cub (by simp; omega); have lu8 := (ku.grown r18 (by simp; omega)).lt)
                | ((with_reducible refine is_load 60 ?_); refine wp_loadR gn V3 kn9 rfl ?_; go_frame)
                | ((with_reducible refine is_store 60 ?_); refine wp_storeR gs _ V3 kS8 rfl rfl rfl ?_; intro wz kz rz; go_frame))
              refine bodyPost_ret (results_R2 Tryd.results31 _ _ gs V3 rfl kz) rfl ?_
              rw [HE.out]
              have HB8 := HB.grown r18 HB.size (fun z hz => by cases hz; exact hs10)
              have hSl := ((HSl.out.grown r18 (fun g hg h => by cases hg; omega)).grown rz (fun g hg h => by cases hg; omega)).mono (N' := fun _ => True) (fun _ _ => trivial)
              have kuz := (ku.grown r18 (by simp; omega)).grown rz (by simp; omega)
              have f3 : V3.root = root ∧ V3.num = Ds ∧ V3.m = ⟨some ⟨bb, oo + 108, none⟩, m, qc - 108⟩ ∧ V3.u = ⟨some ⟨gu, 0, none⟩, n + 1, n + 1⟩ := by rw [← HV3.out]; exact ⟨rfl, rfl, rfl, rfl⟩
              have HBz := HB8.grown rz HB8.size (fun z hz => by cases hz; exact hgs)
              obtain ⟨g1, g2, g3, g4⟩ := f3
              rw [← g3] at hSl
              have kul := Blk.list kuz (show (us.map Value.bool).length = n + 1 by rw [List.length_map]; exact hul)
              have hRF : RootF n (some ⟨root, Ds, mt, cu⟩) V3 true wz := RootF.mk_ us g1 g2 hSl g4 hn kul hul HU2.out
              exact ⟨⟨V3, true, rfl, hRF⟩, by first | exact HBz | (rw [hgse] at HBz; exact HBz)⟩
theorem own_base13 {w : World} {b b' : Nat} {e : TypeId} {size : Nat} {v : Value} {n : Nat} {xs : List Value} (h : w.ownsRow b e size v n xs) (hb : b' ≤ b) : w.ownsRow b' e size v n xs :=
  ⟨h.1, h.2.imp id fun ⟨g, cap, cur, h1, h2, h3⟩ => ⟨g, cap, cur, h1, Nat.le_trans hb h2, h3⟩⟩
set_option maxHeartbeats 4000000 in
theorem slot_any13 (d : DV) (D : Dk) (sec r : Nat) (w : World) (hd : DkV w d D) (hin : sec + 8 * r + 8 ≤ D.n) :
    Calls Tryd.prog 32 #[d.v, .int .i64 sec, .int .i64 r] w fun e w' => ∃ A c, e = .returned (.slice A 1024 c) ∧ w'.ownsRow w.heap.size 5 1 (.slice A 1024 c) 1024 ((secs D.cur (sec + 8 * r) 8).map byV) ∧ 1024 ≤ c ∧ c ≤ 9223372036854775807 ∧ Below w.heap.size w w' := by
  have hdn := hd.hn
  have HR := hid (fun (k : Nat) w' (hb : Below w.heap.size w w') (hk : k < 8) => read_good d D (sec + 8 * r + k) w' (hd.keep hb) (by omega))
  unfold DV.v at HR
  rw [show d.v = Value.agg #[.int .i64 d.n, .pointer d.s, .pointer d.c, .pointer d.l, .int .i64 d.m] from rfl]
  clear hd
  have e1 := IntWalk.i64_in (8 * (r : Int)) (by omega)
  have e2 := IntWalk.i64_in ((sec : Int) + 8 * (r : Int)) (by omega)
  go_enter Tryd.func32, Tryd.ntmps32
  go_wp2_with fail
  have hP : Blk (w.alloc (.cells #[.int .i64 d.n, .pointer d.s, .pointer d.c, .pointer d.l, .int .i64 d.m] 27)) w.heap.size 27 [.int .i64 d.n, .pointer d.s, .pointer d.c, .pointer d.l, .int .i64 d.m] := Blk.new w _ _
  have hB : Below w.heap.size w (w.alloc (.cells #[.int .i64 d.n, .pointer d.s, .pointer d.c, .pointer d.l, .int .i64 d.m] 27)) := (Below.refl _ _).alloc (Nat.le_refl _) _
  have hS : (w.alloc (.cells #[.int .i64 d.n, .pointer d.s, .pointer d.c, .pointer d.l, .int .i64 d.m] 27)).heap.size = w.heap.size + 1 := by simp
  generalize (w.alloc (.cells #[.int .i64 d.n, .pointer d.s, .pointer d.c, .pointer d.l, .int .i64 d.m] 27)) = w1 at hP hB hS ⊢
  have hS1 := hS
  clear hS
  go_loopw [7, 11] (fun o i wr => ∃ (k : Nat) (A : Option Addr) (c : Nat), k ≤ 8 ∧ i = .int .i64 k ∧ o = .slice A (128 * k) c ∧ wr.ownsRow w1.heap.size 5 1 (.slice A (128 * k) c) (128 * k) ((secs D.cur (sec + 8 * r) k).map byV) ∧ Below w1.heap.size w1 wr) (fun _ i _ => 8 - (intOf i).toNat)
  case atStart => exact ⟨0, none, 0, by omega, rfl, rfl, World.ownsRow_nil _ _ _ _, Below.refl _ _⟩
  case round =>
    obtain ⟨k, A, c, hk, rfl, rfl, hown, hbel⟩ := hrel
    have B1 := hB.trans (hbel.mono hB.size)
    have kd := hP.keep hbel
    by_cases hlt : k < 8
    · obtain ⟨x0, x1, x2, x3, x4⟩ := kd.c5
      have e0 := IntWalk.i64_in ((sec : Int) + 8 * (r : Int) + (k : Int)) (by omega)
      have tk : (k : Int) < 8 := by omega
      go_wp2_with fail
      have R := HR.out k _ B1 hlt
      rw [show ((sec + 8 * r + k : Nat) : Int) = (sec : Int) + 8 * (r : Int) + (k : Int) by omega] at R
      refine R.mono ?_
      clear R
      rintro e w5 ⟨g5, rfl, hown5, b5⟩
      have hr5 : RB w5 (some ⟨g5, 0, none⟩) 128 (D.cur (sec + 8 * r + k)) := RL.of_own hown5
      have hown2 := own_below hown b5
      have hb2 := hbel.trans (b5.mono hbel.size)
      clear x0 x1 x2 x3 x4 hown kd
      go_wp2_with (at_builtin; refine wp_app _ rfl _ _ 40 rfl w1.heap.size 5 _ 1 bytesT _ _ _ hown2 rfl _ _ _ _ hr5 rfl (byV_one _) (by unfold maxLen; omega) (by omega) hb2.size ?_; intro v6 w6 hown6 r6 a6)
      rw [show 128 * k + 128 = 128 * (k + 1) by omega, ← List.map_append, ← secs_next] at hown6
      have B6 := hb2.grown r6 hb2.size (fun q hq => (hown2.lt q hq).1)
      obtain ⟨A6, c6, rfl, _, _, _⟩ := own_form hown6
      go_roundw
      case rel => exact ⟨k + 1, A6, c6, by omega, by go_num, rfl, hown6, B6⟩
      case measure => simp [intOf]; omega
    · obtain rfl : k = 8 := by omega
      have tk : ¬ ((8 : Nat) : Int) < 8 := by omega
      obtain ⟨_, _, e9, _, hc1, hc2⟩ := own_form hown
      cases e9
      go_wp2_with fail
      go_ret
      exact ⟨A, c, rfl, own_base13 hown (by omega), hc1, hc2, B1⟩
end Go.Proofs.YtanglofabkbllaaDoor

