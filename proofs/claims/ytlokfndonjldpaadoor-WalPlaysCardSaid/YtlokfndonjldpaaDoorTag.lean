/- tagOf of package wal, walked. Conditions: the slice reads. -/
import Derived.Test.YtlokfndonjldpaaDoorLg
import Derived.Test.YtlokfndonjldpaaDoorNum
import Derived.Test.YtlokfndonjldpaaDoorHead
set_option linter.unusedSimpArgs false
set_option linter.unusedVariables false
namespace Go.Proofs.YtlokfndonjldpaaDoor
open Go.RowKit

def tagCs (l : List UInt8) : List Value := [.int .u64 (tE l), .int .u64 (tG l), .int .u64 (tL l)]
def tagV (l : List UInt8) : Value := .agg #[.int .u64 (tE l), .int .u64 (tG l), .int .u64 (tL l)]
def tagZ : List Value := [.int .u64 0, .int .u64 0, .int .u64 0]
theorem tag_one (l : List UInt8) : ∀ v ∈ tagCs l, v.oneCell' = true := by
  intro v hv
  simp only [tagCs, List.mem_cons, List.not_mem_nil, or_false] at hv
  rcases hv with rfl | rfl | rfl <;> rfl
theorem arrTag : ArrT Tryd.prog 95 tagZ := (by kernel_rfl : (Tryd.prog.info? 95).map (fun i => (i.zero, i.size)) = some (some (.agg tagZ.toArray), 3))
theorem tagN : (Tryd.prog.info? 95).map (·.size) = some 3 := by kernel_rfl

set_option maxRecDepth 100000 in
set_option maxHeartbeats 2000000 in
theorem tagOf_any (b off n c : Nat) (l : List UInt8) (w : World) (hr : RB w (some ⟨b, off, none⟩) n l) (hn : 24 ≤ n) (hnc : n ≤ c) (hc : c ≤ 9223372036854775807) :
    Calls Tryd.prog 55 #[.slice (some ⟨b, off, none⟩) n c] w fun e w' => e = .returned (tagV l) ∧ Below w.heap.size w w' := by
    have c8 : ¬ c = 8 := by omega
    have c16 : ¬ c = 16 := by omega
    go_enter Tryd.func55, Tryd.ntmps55
    go_wp2_with ((with_reducible refine is_alloc 95 ?_); refine wp_allocB _ arrTag ?_; intro w1 k1 b1 s1; go_frame)
    have HR : Hid (∀ w', Below w1.heap.size w1 w' → RB w' (some ⟨b, off, none⟩) 8 (l.take 8) ∧ RB w' (some ⟨b, off + 8, none⟩) 8 ((l.drop 8).take 8) ∧ RB w' (some ⟨b, off + 16, none⟩) 8 ((l.drop 16).take 8)) := hid fun w' hb => by
      have h := (hr.below b1).below hb
      exact ⟨h.pre (by omega), h.sub 8 8 (by omega), h.sub 16 8 (by omega)⟩
    refine wp_region_head 13 10 [3, 4, 5, 6, 7, 8, 9, 10, 11, 12] [] ((fun kq => ([fun u w' => u = .slice (some ⟨b, off, none⟩) n c, fun u w' => u = .slice (some ⟨b, off, none⟩) 8 c, fun u w' => u = .int .u64 (tE l), fun u w' => u = .slice (some ⟨b, off, none⟩) n c, fun u w' => u = .slice (some ⟨b, off + 8, none⟩) 8 (c - 8), fun u w' => u = .int .u64 (tG l), fun u w' => u = .slice (some ⟨b, off, none⟩) n c, fun u w' => u = .slice (some ⟨b, off + 16, none⟩) 8 (c - 16), fun u w' => u = .int .u64 (tL l), fun u w' => u = .agg #[.int .u64 (tE l), .int .u64 (tG l), .int .u64 (tL l)]] : List (Value → World → Prop)).getD kq (fun _ _ => True))) (by kernel_rfl) rfl (by kernel_rfl) (.inl rfl) ?grow ?step ?tail
    case step =>
      simp only [List.take_succ_cons, List.take_zero]
      refine HSteps.cons ?_ ?_
      · intro f w' hb hU
        simp only [putAll, List.foldl_cons, List.foldl_nil]
        go_frame
        go_wp2_with fail
        exact ⟨rfl, _, rfl, Below.refl _ _, rfl⟩
      refine HSteps.cons ?_ ?_
      · intro f w' hb hU
        obtain u0 : f 3 = .slice (some ⟨b, off, none⟩) n c := hU.get ⟨0, .data⟩ (by simp) rfl
        simp only [putAll, List.foldl_cons, List.foldl_nil]
        go_frame
        try simp only [u0]
        go_wp2_with fail
        exact ⟨rfl, _, rfl, Below.refl _ _, rfl⟩
      refine HSteps.cons ?_ ?_
      · intro f w' hb hU
        obtain u1 : f 4 = .slice (some ⟨b, off, none⟩) 8 c := hU.get ⟨1, .data⟩ (by simp) rfl
        simp only [putAll, List.foldl_cons, List.foldl_nil]
        go_frame
        try simp only [u1]
        go_wp2_with fail
        refine (value_any (some ⟨b, off, none⟩) 8 c (l.take 8) w' ((HR.out _ hb).1) (by omega)).mono ?_
        rintro e w3 ⟨rfl, rfl⟩
        go_wp2_with fail
        exact ⟨rfl, _, rfl, Below.refl  _ _, rfl⟩
      refine HSteps.cons ?_ ?_
      · intro f w' hb hU
        simp only [putAll, List.foldl_cons, List.foldl_nil]
        go_frame
        go_wp2_with fail
        exact ⟨rfl, _, rfl, Below.refl _ _, rfl⟩
      refine HSteps.cons ?_ ?_
      · intro f w' hb hU
        obtain u3 : f 6 = .slice (some ⟨b, off, none⟩) n c := hU.get ⟨3, .data⟩ (by simp) rfl
        simp only [putAll, List.foldl_cons, List.foldl_nil]
        go_frame
        try simp only [u3]
        go_wp2_with fail
        exact ⟨rfl, _, rfl, Below.refl _ _, rfl⟩
      refine HSteps.cons ?_ ?_
      · intro f w' hb hU
        obtain u4 : f 7 = .slice (some ⟨b, off + 8, none⟩) 8 (c - 8) := hU.get ⟨4, .data⟩ (by simp) rfl
        obtain u2 : f 5 = .int .u64 (tE l) := hU.get ⟨2, .chain⟩ (by simp) rfl
        simp only [putAll, List.foldl_cons, List.foldl_nil]
        go_frame
        try simp only [u4, u2]
        go_wp2_with fail
        refine (value_any (some ⟨b, off + 8, none⟩) 8 (c - 8) ((l.drop 8).take 8) w' ((HR.out _ hb).2.1) (by omega)).mono ?_
        rintro e w3 ⟨rfl, rfl⟩
        go_wp2_with fail
        exact ⟨rfl, _, rfl, Below.refl  _ _, rfl⟩
      refine HSteps.cons ?_ ?_
      · intro f w' hb hU
        simp only [putAll, List.foldl_cons, List.foldl_nil]
        go_frame
        go_wp2_with fail
        exact ⟨rfl, _, rfl, Below.refl _ _, rfl⟩
      refine HSteps.cons ?_ ?_
      · intro f w' hb hU
        obtain u6 : f 9 = .slice (some ⟨b, off, none⟩) n c := hU.get ⟨6, .data⟩ (by simp) rfl
        simp only [putAll, List.foldl_cons, List.foldl_nil]
        go_frame
        try simp only [u6]
        go_wp2_with fail
        exact ⟨rfl, _, rfl, Below.refl _ _, rfl⟩
      refine HSteps.cons ?_ ?_
      · intro f w' hb hU
        obtain u7 : f 10 = .slice (some ⟨b, off + 16, none⟩) 8 (c - 16) := hU.get ⟨7, .data⟩ (by simp) rfl
        obtain u5 : f 8 = .int .u64 (tG l) := hU.get ⟨5, .chain⟩ (by simp) rfl
        simp only [putAll, List.foldl_cons, List.foldl_nil]
        go_frame
        try simp only [u7, u5]
        go_wp2_with fail
        refine (value_any (some ⟨b, off + 16, none⟩) 8 (c - 16) ((l.drop 16).take 8) w' ((HR.out _ hb).2.2) (by omega)).mono ?_
        rintro e w3 ⟨rfl, rfl⟩
        go_wp2_with fail
        exact ⟨rfl, _, rfl, Below.refl  _ _, rfl⟩
      refine HSteps.cons ?_ ?_
      · intro f w' hb hU
        obtain u2 : f 5 = .int .u64 (tE l) := hU.get ⟨2, .data⟩ (by simp) rfl
        obtain u5 : f 8 = .int .u64 (tG l) := hU.get ⟨5, .data⟩ (by simp) rfl
        obtain u8 : f 11 = .int .u64 (tL l) := hU.get ⟨8, .data⟩ (by simp) rfl
        simp only [putAll, List.foldl_cons, List.foldl_nil]
        go_frame
        try simp only [u2, u5, u8]
        go_wp2_with fail
        exact ⟨rfl, _, rfl, Below.refl _ _, rfl⟩
      exact HSteps.nil
    case grow =>
      intro kq u wa wb hb hu
      rcases kq with _ | _ | _ | _ | _ | _ | _ | _ | _ | _ | kq
      · exact hu
      · exact hu
      · exact hu
      · exact hu
      · exact hu
      · exact hu
      · exact hu
      · exact hu
      · exact hu
      · exact hu
      · trivial
    case tail =>
      intro f w7 hb7 hU
      obtain u9 : f 12 = .agg #[.int .u64 (tE l), .int .u64 (tG l), .int .u64 (tL l)] := hU.get 9 (by decide)
      simp only [List.drop_succ_cons, List.drop_zero, putAll, List.foldl_cons, List.foldl_nil]
      go_frame
      simp only [u9]
      clear u9
      clear hU
      have k7 := k1.keep hb7
      have B7 := b1.trans (hb7.mono b1.size)
      clear hb7
      go_wp2_with ((with_reducible refine is_store 95 ?_); refine wp_storeB w.heap.size _ _ (tagCs l) k7 tagN rfl (tag_one l) rfl rfl ?_; intro w8 k8 r8; go_frame)
      obtain ⟨e0, e1, e2⟩ := k8.c3
      refine bodyPost_ret (v := tagV l) (by simp [results, Tryd.results55, go_sem, e0, e1, e2]; rfl) rfl ⟨rfl, B7.grown r8 B7.size (fun k hk => by cases hk; exact Nat.le_refl _)⟩
end Go.Proofs.YtlokfndonjldpaaDoor
