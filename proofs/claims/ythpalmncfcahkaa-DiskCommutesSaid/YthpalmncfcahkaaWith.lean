/- The tree with another sector, walked. Conditions: the tree reads. -/
import Derived.Test.YthpalmncfcahkaaDiskW
set_option linter.unusedSimpArgs false
set_option linter.unusedVariables false
namespace Go.Proofs.Ythpalmncfcahkaa
open Go.RowKit

/-- the three nodes that with makes -/
structure With (w0 w : World) (c1 c2 c3 : Nat → Option Addr) : Prop where
  r : Blk w w0.heap.size 86 (ptrs c1)
  n : Blk w (w0.heap.size + 1) 88 (ptrs c2)
  l : Blk w (w0.heap.size + 2) 90 (ptrs c3)
  b : Below w0.heap.size w0 w
section
variable {w0 w w' : World} {c1 c2 c3 c : Nat → Option Addr}
theorem With.drew (h : With w0 w c1 c2 c3) : With w0 w.drew c1 c2 c3 := ⟨h.r, h.n, h.l, h.b.drew⟩
theorem With.s1 (h : With w0 w c1 c2 c3) (hr : Blk w' w0.heap.size 86 (ptrs c)) (g : w.grownBy w' (some w0.heap.size)) : With w0 w' c c2 c3 :=
  ⟨hr, h.n.grown g (by simp), h.l.grown g (by simp), h.b.grown g h.b.size (fun k hk => by cases hk; exact Nat.le_refl _)⟩
theorem With.s2 (h : With w0 w c1 c2 c3) (hr : Blk w' (w0.heap.size + 1) 88 (ptrs c)) (g : w.grownBy w' (some (w0.heap.size + 1))) : With w0 w' c1 c c3 :=
  ⟨h.r.grown g (by simp), hr, h.l.grown g (by simp), h.b.grown g h.b.size (fun k hk => by cases hk; omega)⟩
theorem With.s3 (h : With w0 w c1 c2 c3) (hr : Blk w' (w0.heap.size + 2) 90 (ptrs c)) (g : w.grownBy w' (some (w0.heap.size + 2))) : With w0 w' c1 c2 c :=
  ⟨h.r.grown g (by simp), h.n.grown g (by simp), hr, h.b.grown g h.b.size (fun k hk => by cases hk; omega)⟩
theorem With.start {w0 w1 w2 w3 : World} (a1 : Blk w1 w0.heap.size 86 (ptrs fun _ => none)) (B1 : Below w0.heap.size w0 w1) (s1 : w1.heap.size = w0.heap.size + 1) (a2 : Blk w2 (w0.heap.size + 1) 88 (ptrs fun _ => none)) (B2 : Below (w0.heap.size + 1) w1 w2)
    (a3 : Blk w3 (w0.heap.size + 1 + 1) 90 (ptrs fun _ => none)) (B3 : Below (w0.heap.size + 1 + 1) w2 w3) : With w0 w3 (fun _ => none) (fun _ => none) (fun _ => none) :=
  ⟨(a1.below B2 (by omega)).below B3 (by omega), a2.below B3 (by omega), a3, (B1.trans (B2.mono (by omega))).trans (B3.mono (by omega))⟩
end
theorem elP : (Try.prog.info? 79).map (·.size) = some 1 ∧ (Try.prog.info? 80).map (·.size) = some 1 ∧ (Try.prog.info? 68).map (·.size) = some 1 := ⟨by kernel_rfl, by kernel_rfl, by kernel_rfl⟩

set_option maxRecDepth 100000 in
set_option maxHeartbeats 2000000 in
theorem with_any (p : Option Addr) (f : Secs) (i gs : Nat) (s : List UInt8) (w : World) (h : Tree w p f) (hi : i < 32768) (hs : BlkB w gs 65 s) (hl : s.length = 128) :
    Calls Try.prog 27 #[.pointer p, .int .i64 i, .pointer (some ⟨gs, 0, none⟩)] w fun e w' => ∃ g, e = .returned (.pointer (some ⟨g, 0, none⟩)) ∧ Tree w' (some ⟨g, 0, none⟩) (upd f i s) ∧ Below w.heap.size w w' := by
  obtain ⟨q1, r1, k1⟩ := h.get
  obtain ⟨q2, r2, k2⟩ := (r1 (i / 32 / 32) (by omega)).get
  obtain ⟨q3, r3, k3⟩ := (r2 (i / 32 % 32) (by omega)).get
  have HM := hid (fun (w' : World) g1 g2 g3 ps hb b3 b2 b1 hs => Tree.made (w' := w') (g1 := g1) (g2 := g2) (g3 := g3) (ps := ps) (s := s) hi r1 r2 r3 hb b3 b2 b1 hs)
  clear r1 r2 r3 h
  rcases k1 with ⟨rfl, rfl⟩ | ⟨g1, rfl, k1⟩
  · obtain ⟨k2, rfl⟩ := k2.resolve_right (by rintro ⟨g, hg, _⟩; cases hg)
    obtain ⟨k3, rfl⟩ := k3.resolve_right (by rintro ⟨g, hg, _⟩; cases hg)
    go_enter Try.func27, Try.ntmps27
    go_wp2_with (first
      | ((with_reducible refine is_alloc 86 ?_); refine wp_allocB _ arrRoot ?_; intro w1 a1 B1 s1; go_frame)
      | ((with_reducible refine is_alloc 88 ?_); refine wp_allocN (w.heap.size + 1) s1 _ arrBrn ?_; intro w2 a2 B2 s2; go_frame)
      | ((with_reducible refine is_alloc 90 ?_); refine wp_allocN (w.heap.size + 1 + 1) s2 _ arrLeaf ?_; intro w3 a3 B3 s3; go_frame; have S := With.start a1 B1 s1 a2 B2 a3 B3; clear a1 B1 s1 a2 B2 s2 a3 B3 s3; have c1 := S.r.cell (i / 32 / 32); rw [ptrs_at _ _ (by omega)] at c1; have c2 := S.n.cell (i / 32 % 32); rw [ptrs_at _ _ (by omega)] at c2)
      | ((with_reducible refine is_store 68 ?_); (refine wp_store1 (w.heap.size + 1 + 1) (i % 32) _ _ (.pointer (some ⟨gs, 0, none⟩)) S.l rfl elP.2.2 (by rw [ptrs_len]; omega) rfl rfl rfl ?_; intro w4 a4 g4; go_frame; rw [ptrs_set] at a4; have S := S.s3 a4 g4; clear a4 g4))
      | ((with_reducible refine is_store 80 ?_); (refine wp_store1 (w.heap.size + 1) (i / 32 % 32) _ _ (.pointer (some ⟨w.heap.size + 1 + 1, 0, none⟩)) S.n rfl elP.2.1 (by rw [ptrs_len]; omega) rfl rfl rfl ?_; intro w5 a4 g4; go_frame; rw [ptrs_set] at a4; have S := S.s2 a4 g4; clear a4 g4))
      | ((with_reducible refine is_store 79 ?_); (refine wp_store1 w.heap.size (i / 32 / 32) _ _ (.pointer (some ⟨w.heap.size + 1, 0, none⟩)) S.r rfl elP.1 (by rw [ptrs_len]; omega) rfl rfl rfl ?_; intro w6 a4 g4; go_frame; rw [ptrs_set] at a4; have S := S.s1 a4 g4; clear a4 g4)))
    go_ret
    exact ⟨_, rfl, HM.out _ _ _ _ _ S.b S.l S.n S.r (.inr ⟨gs, rfl, hs.keep S.b, hl⟩), S.b⟩
  rcases k2 with ⟨E1, rfl⟩ | ⟨g2, E1, k2⟩
  · have HE1 := hid E1
    clear E1
    obtain ⟨k3, rfl⟩ := k3.resolve_right (by rintro ⟨g, hg, _⟩; cases hg)
    go_enter Try.func27, Try.ntmps27
    go_wp2_with (first
      | ((with_reducible refine is_alloc 86 ?_); refine wp_allocB _ arrRoot ?_; intro w1 a1 B1 s1; go_frame)
      | ((with_reducible refine is_alloc 88 ?_); refine wp_allocN (w.heap.size + 1) s1 _ arrBrn ?_; intro w2 a2 B2 s2; go_frame)
      | ((with_reducible refine is_alloc 90 ?_); refine wp_allocN (w.heap.size + 1 + 1) s2 _ arrLeaf ?_; intro w3 a3 B3 s3; go_frame; have S := With.start a1 B1 s1 a2 B2 a3 B3; clear a1 B1 s1 a2 B2 s2 a3 B3 s3))
    have T0 := S.drew
    have m0 := k1.keep S.b.drew
    clear S
    go_still_tail 4, (by kernel_rfl)
    refine wp_copyB w.heap.size 0 32 32 79 _ _ T0.r Try.underlying91 elP.1 (some ⟨g1, 0, none⟩) 32 32 _ (m0.list (ptrs_len _)) (ptrs_one _) rfl rfl (by rw [ptrs_len]; omega) (fun v0 a4 r4 => ?_)
    go_frame
    rw [copy32] at a4
    have S := T0.s1 a4 r4
    clear a4 r4 T0 m0
    have e1 := HE1.out
    have c1 := S.r.cell (i / 32 / 32)
    rw [ptrs_at _ _ (by omega)] at c1; rw [e1] at c1
    clear e1
    have c2 := S.n.cell (i / 32 % 32)
    rw [ptrs_at _ _ (by omega)] at c2
    go_wp2_with (first
      | ((with_reducible refine is_store 68 ?_); (refine wp_store1 (w.heap.size + 1 + 1) (i % 32) _ _ (.pointer (some ⟨gs, 0, none⟩)) S.l rfl elP.2.2 (by rw [ptrs_len]; omega) rfl rfl rfl ?_; intro w4 a4 g4; go_frame; rw [ptrs_set] at a4; have S := S.s3 a4 g4; clear a4 g4))
      | ((with_reducible refine is_store 80 ?_); (refine wp_store1 (w.heap.size + 1) (i / 32 % 32) _ _ (.pointer (some ⟨w.heap.size + 1 + 1, 0, none⟩)) S.n rfl elP.2.1 (by rw [ptrs_len]; omega) rfl rfl rfl ?_; intro w5 a4 g4; go_frame; rw [ptrs_set] at a4; have S := S.s2 a4 g4; clear a4 g4))
      | ((with_reducible refine is_store 79 ?_); (refine wp_store1 w.heap.size (i / 32 / 32) _ _ (.pointer (some ⟨w.heap.size + 1, 0, none⟩)) S.r rfl elP.1 (by rw [ptrs_len]; omega) rfl rfl rfl ?_; intro w6 a4 g4; go_frame; rw [ptrs_set] at a4; have S := S.s1 a4 g4; clear a4 g4)))
    go_ret
    exact ⟨_, rfl, HM.out _ _ _ _ _ S.b S.l S.n S.r (.inr ⟨gs, rfl, hs.keep S.b, hl⟩), S.b⟩
  have HE1 := hid E1
  clear E1
  rcases k3 with ⟨E2, rfl⟩ | ⟨g3, E2, k3⟩
  · have HE2 := hid E2
    clear E2
    go_enter Try.func27, Try.ntmps27
    go_wp2_with (first
      | ((with_reducible refine is_alloc 86 ?_); refine wp_allocB _ arrRoot ?_; intro w1 a1 B1 s1; go_frame)
      | ((with_reducible refine is_alloc 88 ?_); refine wp_allocN (w.heap.size + 1) s1 _ arrBrn ?_; intro w2 a2 B2 s2; go_frame)
      | ((with_reducible refine is_alloc 90 ?_); refine wp_allocN (w.heap.size + 1 + 1) s2 _ arrLeaf ?_; intro w3 a3 B3 s3; go_frame; have S := With.start a1 B1 s1 a2 B2 a3 B3; clear a1 B1 s1 a2 B2 s2 a3 B3 s3))
    have T0 := S.drew
    have m0 := k1.keep S.b.drew
    clear S
    go_still_tail 4, (by kernel_rfl)
    refine wp_copyB w.heap.size 0 32 32 79 _ _ T0.r Try.underlying91 elP.1 (some ⟨g1, 0, none⟩) 32 32 _ (m0.list (ptrs_len _)) (ptrs_one _) rfl rfl (by rw [ptrs_len]; omega) (fun v0 a4 r4 => ?_)
    go_frame
    rw [copy32] at a4
    have S := T0.s1 a4 r4
    clear a4 r4 T0 m0
    have e1 := HE1.out
    have c1 := S.r.cell (i / 32 / 32)
    rw [ptrs_at _ _ (by omega)] at c1; rw [e1] at c1
    clear e1
    go_wp2_with fail
    have T1 := S.drew
    have m1 := k2.keep S.b.drew
    clear S
    go_still_tail 4, (by kernel_rfl)
    refine wp_copyB (w.heap.size + 1) 0 32 32 80 _ _ T1.n Try.underlying92 elP.2.1 (some ⟨g2, 0, none⟩) 32 32 _ (m1.list (ptrs_len _)) (ptrs_one _) rfl rfl (by rw [ptrs_len]; omega) (fun v1 a4 r4 => ?_)
    go_frame
    rw [copy32] at a4
    have S := T1.s2 a4 r4
    clear a4 r4 T1 m1
    have e2 := HE2.out
    have c2 := S.n.cell (i / 32 % 32)
    rw [ptrs_at _ _ (by omega)] at c2; rw [e2] at c2
    clear e2
    go_wp2_with (first
      | ((with_reducible refine is_store 68 ?_); (refine wp_store1 (w.heap.size + 1 + 1) (i % 32) _ _ (.pointer (some ⟨gs, 0, none⟩)) S.l rfl elP.2.2 (by rw [ptrs_len]; omega) rfl rfl rfl ?_; intro w4 a4 g4; go_frame; rw [ptrs_set] at a4; have S := S.s3 a4 g4; clear a4 g4))
      | ((with_reducible refine is_store 80 ?_); (refine wp_store1 (w.heap.size + 1) (i / 32 % 32) _ _ (.pointer (some ⟨w.heap.size + 1 + 1, 0, none⟩)) S.n rfl elP.2.1 (by rw [ptrs_len]; omega) rfl rfl rfl ?_; intro w5 a4 g4; go_frame; rw [ptrs_set] at a4; have S := S.s2 a4 g4; clear a4 g4))
      | ((with_reducible refine is_store 79 ?_); (refine wp_store1 w.heap.size (i / 32 / 32) _ _ (.pointer (some ⟨w.heap.size + 1, 0, none⟩)) S.r rfl elP.1 (by rw [ptrs_len]; omega) rfl rfl rfl ?_; intro w6 a4 g4; go_frame; rw [ptrs_set] at a4; have S := S.s1 a4 g4; clear a4 g4)))
    go_ret
    exact ⟨_, rfl, HM.out _ _ _ _ _ S.b S.l S.n S.r (.inr ⟨gs, rfl, hs.keep S.b, hl⟩), S.b⟩
  · have HE2 := hid E2
    clear E2
    go_enter Try.func27, Try.ntmps27
    go_wp2_with (first
      | ((with_reducible refine is_alloc 86 ?_); refine wp_allocB _ arrRoot ?_; intro w1 a1 B1 s1; go_frame)
      | ((with_reducible refine is_alloc 88 ?_); refine wp_allocN (w.heap.size + 1) s1 _ arrBrn ?_; intro w2 a2 B2 s2; go_frame)
      | ((with_reducible refine is_alloc 90 ?_); refine wp_allocN (w.heap.size + 1 + 1) s2 _ arrLeaf ?_; intro w3 a3 B3 s3; go_frame; have S := With.start a1 B1 s1 a2 B2 a3 B3; clear a1 B1 s1 a2 B2 s2 a3 B3 s3))
    have T0 := S.drew
    have m0 := k1.keep S.b.drew
    clear S
    go_still_tail 4, (by kernel_rfl)
    refine wp_copyB w.heap.size 0 32 32 79 _ _ T0.r Try.underlying91 elP.1 (some ⟨g1, 0, none⟩) 32 32 _ (m0.list (ptrs_len _)) (ptrs_one _) rfl rfl (by rw [ptrs_len]; omega) (fun v0 a4 r4 => ?_)
    go_frame
    rw [copy32] at a4
    have S := T0.s1 a4 r4
    clear a4 r4 T0 m0
    have e1 := HE1.out
    have c1 := S.r.cell (i / 32 / 32)
    rw [ptrs_at _ _ (by omega)] at c1; rw [e1] at c1
    clear e1
    go_wp2_with fail
    have T1 := S.drew
    have m1 := k2.keep S.b.drew
    clear S
    go_still_tail 4, (by kernel_rfl)
    refine wp_copyB (w.heap.size + 1) 0 32 32 80 _ _ T1.n Try.underlying92 elP.2.1 (some ⟨g2, 0, none⟩) 32 32 _ (m1.list (ptrs_len _)) (ptrs_one _) rfl rfl (by rw [ptrs_len]; omega) (fun v1 a4 r4 => ?_)
    go_frame
    rw [copy32] at a4
    have S := T1.s2 a4 r4
    clear a4 r4 T1 m1
    have e2 := HE2.out
    have c2 := S.n.cell (i / 32 % 32)
    rw [ptrs_at _ _ (by omega)] at c2; rw [e2] at c2
    clear e2
    go_wp2_with fail
    have T2 := S.drew
    have m2 := k3.keep S.b.drew
    clear S
    go_still_tail 4, (by kernel_rfl)
    refine wp_copyB (w.heap.size + 1 + 1) 0 32 32 68 _ _ T2.l Try.underlying93 elP.2.2 (some ⟨g3, 0, none⟩) 32 32 _ (m2.list (ptrs_len _)) (ptrs_one _) rfl rfl (by rw [ptrs_len]; omega) (fun v2 a4 r4 => ?_)
    go_frame
    rw [copy32] at a4
    have S := T2.s3 a4 r4
    clear a4 r4 T2 m2
    have c3 := S.l.cell (i % 32)
    rw [ptrs_at _ _ (by omega)] at c3
    go_wp2_with (first
      | ((with_reducible refine is_store 68 ?_); (refine wp_store1 (w.heap.size + 1 + 1) (i % 32) _ _ (.pointer (some ⟨gs, 0, none⟩)) S.l rfl elP.2.2 (by rw [ptrs_len]; omega) rfl rfl rfl ?_; intro w4 a4 g4; go_frame; rw [ptrs_set] at a4; have S := S.s3 a4 g4; clear a4 g4))
      | ((with_reducible refine is_store 80 ?_); (refine wp_store1 (w.heap.size + 1) (i / 32 % 32) _ _ (.pointer (some ⟨w.heap.size + 1 + 1, 0, none⟩)) S.n rfl elP.2.1 (by rw [ptrs_len]; omega) rfl rfl rfl ?_; intro w5 a4 g4; go_frame; rw [ptrs_set] at a4; have S := S.s2 a4 g4; clear a4 g4))
      | ((with_reducible refine is_store 79 ?_); (refine wp_store1 w.heap.size (i / 32 / 32) _ _ (.pointer (some ⟨w.heap.size + 1, 0, none⟩)) S.r rfl elP.1 (by rw [ptrs_len]; omega) rfl rfl rfl ?_; intro w6 a4 g4; go_frame; rw [ptrs_set] at a4; have S := S.s1 a4 g4; clear a4 g4)))
    go_ret
    exact ⟨_, rfl, HM.out _ _ _ _ _ S.b S.l S.n S.r (.inr ⟨gs, rfl, hs.keep S.b, hl⟩), S.b⟩
end Go.Proofs.Ythpalmncfcahkaa
