/- Reset of package wal, walked. Conditions: the disk reads; the table of remainders is laid. -/
import Derived.Test.YtlokfndonjldpaaDoorAppend
set_option linter.unusedSimpArgs false
set_option linter.unusedVariables false
namespace Go.Proofs.YtlokfndonjldpaaDoor
open Go.RowKit

/-- a log begun anew -/
def Lg.anew (l : Lg) : Lg := ⟨l.from_, l.size, (l.e + 1) % 18446744073709551616, 1, l.nx, l.from_ + 1⟩
set_option maxRecDepth 100000 in
set_option maxHeartbeats 4000000 in
theorem reset_no (l : Lg) (d : DV) (w : World) (hok : l.ok) (h : l.size < 1 ∨ d.n < l.from_ + l.size) (hdn : d.n ≤ 16384) :
    Calls Tryd.prog 27 #[l.v, d.v] w fun e w' => e = .returned (.tuple #[DV.zero.v, Lg.zero.v, .int .i64 3]) ∧ Below w.heap.size w w' := by
    have h1 := hok.f
    have h2 := hok.s
    have HI := hid (fun w' => inside_no d l.from_ l.size 1 w' (by omega) hdn (by omega) (by omega) (by omega) (by omega) (by omega))
    unfold DV.v at HI
    clear h
    rw [show l.v = .agg #[.int .i64 l.from_, .int .i64 l.size, .int .u64 l.e, .int .u64 l.g, .int .u64 l.nx, .int .i64 l.at_] from rfl, show d.v = Value.agg #[.int .i64 d.n, .pointer d.s, .pointer d.c, .pointer d.l, .int .i64 d.m] from rfl]
    go_enter Tryd.func27, Tryd.ntmps27
    go_wp2_with fail
    generalize hw3 : World.alloc (World.alloc (World.alloc (World.alloc w _) _) _) _ = v3
    obtain ⟨k2, k3, k4, k5, B⟩ := four_boxes (cs1 := l.cs) (cs2 := d.cs) (cs3 := DV.zero.cs) (cs4 := Lg.zero.cs) hw3
    clear hw3
    refine (HI.out v3).mono ?_
    rintro e w4 ⟨rfl, b4⟩
    replace k4 := k4.keep b4
    replace k5 := k5.keep b4
    replace B := B.trans (b4.mono B.size)
    clear HI b4 k2 k3
    go_wp2_with (first
      | ((with_reducible refine is_store 38 ?_); refine wp_storeB (w.heap.size + 2) _ _ DV.zero.cs k4 diskN rfl (dv_one _) rfl rfl ?_; intro w5 k6 r6; go_frame)
      | ((with_reducible refine is_store 44 ?_); refine wp_storeB (w.heap.size + 3) _ _ Lg.zero.cs (k5.grown r6 (by simp)) logN rfl (lg_one _) rfl rfl ?_; intro w8 k8 r8; go_frame))
    have k6' := k6.grown r8 (by simp)
    obtain ⟨x0, x1, x2, x3, x4⟩ := k6'.c5
    obtain ⟨e0, e1, e2, e3, e4, e5⟩ := k8.c6
    refine bodyPost_ret (v := .tuple #[DV.zero.v, Lg.zero.v, .int .i64 3]) (by simp [results, Tryd.results27, go_sem, x0, x1, x2, x3, x4, e0, e1, e2, e3, e4, e5]; exact ⟨rfl, rfl⟩) rfl ⟨rfl, (B.grown r6 B.size (fun k hk => by cases hk; omega)).grown r8 (by have := B.size; have := r6.size; omega) (fun k hk => by cases hk; omega)⟩

set_option maxRecDepth 100000 in
set_option maxHeartbeats 4000000 in
theorem reset_good (l : Lg) (d : DV) (D : Dk) (w : World) (hd : DkV w d D) (hT : Tab w) (hok : l.ok) (h1 : 1 ≤ l.size) (hin : l.from_ + l.size ≤ D.n) (hDW : D.W.length ≤ 1000000) :
    Calls Tryd.prog 27 #[l.v, d.v] w fun e w' => ∃ d' : DV, e = .returned (.tuple #[d'.v, l.anew.v, .int .i64 0]) ∧ DkV w' d' (D.write l.from_ (hdr l.anew.e l.nx)).sync ∧ Below w.heap.size w w' := by
    have hdn := hd.hn
    have hlf := hok.f
    have hls := hok.s
    have hnx := hok.n
    have HI := hid (fun w' => inside_yes d l.from_ l.size 1 w' (by rw [hd.n]; exact hin) h1 (by rw [hd.n]; exact hdn))
    have HTb := hid hT
    unfold DV.v at HI
    have HDk := hid hd
    obtain ⟨e2, he⟩ : ∃ z, (l.e + 1) % 18446744073709551616 = z := ⟨_, rfl⟩
    have he2 : e2 < 18446744073709551616 := by omega
    have eg : IntKind.u64.wrap ((l.e : Int) + 1) = (e2 : Int) := by rw [IntKind.wrap_u64]; omega
    have HE := hid he
    clear he hT hd hok
    rw [show l.v = .agg #[.int .i64 l.from_, .int .i64 l.size, .int .u64 l.e, .int .u64 l.g, .int .u64 l.nx, .int .i64 l.at_] from rfl, show d.v = Value.agg #[.int .i64 d.n, .pointer d.s, .pointer d.c, .pointer d.l, .int .i64 d.m] from rfl]
    go_enter Tryd.func27, Tryd.ntmps27
    go_wp2_with fail
    generalize hw3 : World.alloc (World.alloc (World.alloc (World.alloc w _) _) _) _ = v3
    obtain ⟨k2, k3, k4, k5, B⟩ := four_boxes (cs1 := l.cs) (cs2 := d.cs) (cs3 := DV.zero.cs) (cs4 := Lg.zero.cs) hw3
    clear hw3
    refine (HI.out v3).mono ?_
    rintro e w4 ⟨rfl, b4⟩
    replace k2 := k2.keep b4
    replace k3 := k3.keep b4
    replace k4 := k4.keep b4
    replace k5 := k5.keep b4
    replace B := B.trans (b4.mono B.size)
    have hd := HDk.out.keep B
    clear HI b4 HDk
    have l2 := k2.lt
    obtain ⟨z0, z1, z2, z3, z4, z5⟩ := k2.c6
    go_wp2_with (first
      | ((with_reducible refine is_store 27 ?_); refine wp_store1 w.heap.size 2 _ _ (.int .u64 e2) k2 rfl numN.1 (by simp [Lg.cs]) rfl rfl rfl ?_; intro w5 k6 r6; go_frame; have k6' : Blk w5 w.heap.size 44 (⟨l.from_, l.size, e2, l.g, l.nx, l.at_⟩ : Lg).cs := k6; clear z0 z1 z2 z3 z4 z5 l2)
      | ((with_reducible refine is_store 27 ?_); refine wp_store1 w.heap.size 3 _ _ (.int .u64 1) k6' rfl numN.1 (by simp [Lg.cs]) rfl rfl rfl ?_; intro w7 k8 r8; go_frame; have k8' : Blk w7 w.heap.size 44 (⟨l.from_, l.size, e2, 1, l.nx, l.at_⟩ : Lg).cs := k8; obtain ⟨z0, z1, z2, z3, z4, z5⟩ := k8'.c6; dsimp only at z0 z1 z2 z3 z4 z5; have l2 := k8'.lt)
      | ((with_reducible refine is_store 3 ?_); refine wp_store1 w.heap.size 5 _ _ (.int .i64 ((l.from_ : Int) + 1)) k8' rfl numN.2 (by simp [Lg.cs]) rfl rfl rfl ?_; intro w9 k10 r10; go_frame))
    have k10' : Blk w9 w.heap.size 44 (⟨l.from_, l.size, e2, 1, l.nx, l.from_ + 1⟩ : Lg).cs := k10
    replace k3 := ((k3.grown r6 (by simp)).grown r8 (by simp)).grown r10 (by simp)
    replace k4 := ((k4.grown r6 (by simp)).grown r8 (by simp)).grown r10 (by simp)
    replace k5 := ((k5.grown r6 (by simp)).grown r8 (by simp)).grown r10 (by simp)
    replace hd := ((hd.kept (Kept.grown r6 k2 (by unfold dkT; decide))).kept (Kept.grown r8 k6' (by unfold dkT; decide))).kept (Kept.grown r10 k8' (by unfold dkT; decide))
    have B1 := B.grown r6 B.size (fun k hk => by cases hk; exact Nat.le_refl _)
    have B2 := B1.grown r8 B1.size (fun k hk => by cases hk; exact Nat.le_refl _)
    replace B := B2.grown r10 B2.size (fun k hk => by cases hk; exact Nat.le_refl _)
    clear k2 k6 k6' k8 k8' k10 r6 r8 r10 B1 B2 z0 z1 z2 z3 z4 z5 l2
    have k2 := k10'
    clear k10'
    have l2 := k2.lt
    have l3 := k3.lt
    refine wp_region_headF 40 12 [26, 27, 28, 29, 30, 31, 32, 33, 34, 25, 35, 36] [11] ((fun kq => ([fun u w' => u = d.v, fun u w' => u = .pointer (some ⟨w.heap.size, 0, none⟩), fun u w' => u = .int .i64 l.from_, fun u w' => u = .pointer (some ⟨w.heap.size, 2, none⟩), fun u w' => u = .int .u64 e2, fun u w' => u = .pointer (some ⟨w.heap.size, 4, none⟩), fun u w' => u = .int .u64 l.nx, fun u w' => ∃ (g' : Nat), u = .slice (some ⟨g', 0, none⟩) 128 128 ∧ BlkB w' g' 83 (hdr e2 l.nx), fun u w' => ∃ (d2 : DV), u = .tuple #[d2.v, .int .i64 0] ∧ DkV w' d2 (D.write l.from_ (hdr e2 l.nx)), fun u w' => ∃ (d2 : DV), u = .tuple #[d2.v, .int .i64 0] ∧ DkV w' d2 (D.write l.from_ (hdr e2 l.nx)), fun u w' => ∃ (d2 : DV), u = d2.v ∧ DkV w' d2 (D.write l.from_ (hdr e2 l.nx)), fun u w' => u = .int .i64 0] : List (Value → World → Prop)).getD kq (fun _ _ => True))) (by kernel_rfl) rfl (by kernel_rfl) ?grow ?step ?tail
    case step =>
      simp only [List.take_succ_cons, List.take_zero]
      refine HSteps.cons ?_ ?_
      · intro f w' hb hU
        obtain ⟨x0', x1', x2', x3', x4'⟩ := (k3.keep hb).c5
        simp only [putAll, List.foldl_cons, List.foldl_nil]
        go_frame
        go_wp2_with fail
        exact ⟨rfl, _, rfl, Below.refl _ _, rfl⟩
      refine HSteps.cons ?_ ?_
      · intro f w' hb hU
        simp only [putAll, List.foldl_cons, List.foldl_nil]
        go_frame
        go_wp2_with fail
        exact ⟨rfl, _, rfl, Below.refl _ _, rfl⟩
      refine HSteps.cons ?_ ?_
      · intro f w' hb hU
        obtain u1 : f 27 = .pointer (some ⟨w.heap.size, 0, none⟩) := hU.get ⟨1, .data⟩ (by simp) rfl
        obtain ⟨x0', x1', x2', x3', x4', x5'⟩ := (k2.keep hb).c6
        simp only [putAll, List.foldl_cons, List.foldl_nil]
        go_frame
        try simp only [u1]
        go_wp2_with fail
        exact ⟨rfl, _, rfl, Below.refl _ _, rfl⟩
      refine HSteps.cons ?_ ?_
      · intro f w' hb hU
        simp only [putAll, List.foldl_cons, List.foldl_nil]
        go_frame
        go_wp2_with fail
        exact ⟨rfl, _, rfl, Below.refl _ _, rfl⟩
      refine HSteps.cons ?_ ?_
      · intro f w' hb hU
        obtain u3 : f 29 = .pointer (some ⟨w.heap.size, 2, none⟩) := hU.get ⟨3, .data⟩ (by simp) rfl
        obtain ⟨x0', x1', x2', x3', x4', x5'⟩ := (k2.keep hb).c6
        simp only [putAll, List.foldl_cons, List.foldl_nil]
        go_frame
        try simp only [u3]
        go_wp2_with fail
        exact ⟨rfl, _, rfl, Below.refl _ _, rfl⟩
      refine HSteps.cons ?_ ?_
      · intro f w' hb hU
        simp only [putAll, List.foldl_cons, List.foldl_nil]
        go_frame
        go_wp2_with fail
        exact ⟨rfl, _, rfl, Below.refl _ _, rfl⟩
      refine HSteps.cons ?_ ?_
      · intro f w' hb hU
        obtain u5 : f 31 = .pointer (some ⟨w.heap.size, 4, none⟩) := hU.get ⟨5, .data⟩ (by simp) rfl
        obtain ⟨x0', x1', x2', x3', x4', x5'⟩ := (k2.keep hb).c6
        simp only [putAll, List.foldl_cons, List.foldl_nil]
        go_frame
        try simp only [u5]
        go_wp2_with fail
        exact ⟨rfl, _, rfl, Below.refl _ _, rfl⟩
      refine HSteps.cons ?_ ?_
      · intro f w' hb hU
        obtain u4 : f 30 = .int .u64 e2 := hU.get ⟨4, .data⟩ (by simp) rfl
        obtain u6 : f 32 = .int .u64 l.nx := hU.get ⟨6, .data⟩ (by simp) rfl
        have R := header_any e2 l.nx w' he2 hnx (HTb.out.keep (B.trans (hb.mono B.size)))
        simp only [putAll, List.foldl_cons, List.foldl_nil]
        go_frame
        try simp only [u4, u6]
        go_wp2_with fail
        refine (R).mono ?_
        rintro e w3 ⟨g', rfl, _, hg', b3⟩
        go_wp2_with fail
        exact ⟨rfl, _, rfl, b3, g', rfl, hg'⟩
      refine HSteps.cons ?_ ?_
      · intro f w' hb hU
        obtain u0 : f 26 = d.v := hU.get ⟨0, .data⟩ (by simp) rfl
        obtain u2 : f 28 = .int .i64 l.from_ := hU.get ⟨2, .data⟩ (by simp) rfl
        obtain ⟨g', u7, v7_0⟩ : ∃ (g' : Nat), f 33 = .slice (some ⟨g', 0, none⟩) 128 128 ∧ BlkB w' g' 83 (hdr e2 l.nx) := hU.get ⟨7, .data⟩ (by simp) rfl
        have R := write_good d D (some ⟨g', 0, none⟩) 128 (hdr e2 l.nx) l.from_ w' (hd.keep hb) (by omega) (BlkB.cells v7_0 (hdr_len e2 l.nx)) (by omega)
        simp only [putAll, List.foldl_cons, List.foldl_nil]
        go_frame
        try simp only [u0, u2, u7]
        go_wp2_with fail
        refine (R).mono ?_
        rintro e w3 ⟨d2, rfl, hd2, b3⟩
        go_wp2_with fail
        exact ⟨rfl, _, rfl, b3, d2, rfl, hd2⟩
      refine HSteps.cons ?_ ?_
      · intro f w' hb hU
        obtain ⟨d2, u8, v8_0⟩ : ∃ (d2 : DV), f 34 = .tuple #[d2.v, .int .i64 0] ∧ DkV w' d2 (D.write l.from_ (hdr e2 l.nx)) := hU.get ⟨8, .data⟩ (by simp) rfl
        simp only [putAll, List.foldl_cons, List.foldl_nil]
        go_frame
        try simp only [u8]
        go_wp2_with fail
        exact ⟨rfl, _, rfl, Below.refl _ _, d2, rfl, v8_0⟩
      refine HSteps.cons ?_ ?_
      · intro f w' hb hU
        obtain ⟨d2, u9, v9_0⟩ : ∃ (d2 : DV), f 25 = .tuple #[d2.v, .int .i64 0] ∧ DkV w' d2 (D.write l.from_ (hdr e2 l.nx)) := hU.get ⟨9, .data⟩ (by simp) rfl
        simp only [putAll, List.foldl_cons, List.foldl_nil]
        go_frame
        try simp only [u9]
        go_wp2_with fail
        exact ⟨rfl, _, rfl, Below.refl _ _, d2, rfl, v9_0⟩
      refine HSteps.cons ?_ ?_
      · intro f w' hb hU
        obtain ⟨d2, u9, v9_0⟩ : ∃ (d2 : DV), f 25 = .tuple #[d2.v, .int .i64 0] ∧ DkV w' d2 (D.write l.from_ (hdr e2 l.nx)) := hU.get ⟨9, .data⟩ (by simp) rfl
        simp only [putAll, List.foldl_cons, List.foldl_nil]
        go_frame
        try simp only [u9]
        go_wp2_with fail
        exact ⟨rfl, _, rfl, Below.refl _ _, rfl⟩
      exact HSteps.nil
    case grow =>
      intro kq u wa wb hb hu
      rcases kq with _ | _ | _ | _ | _ | _ | _ | _ | _ | _ | _ | _ | kq
      · exact hu
      · exact hu
      · exact hu
      · exact hu
      · exact hu
      · exact hu
      · exact hu
      · obtain ⟨g', ue, uf0⟩ := hu
        exact ⟨g', ue, uf0.keep hb⟩
      · obtain ⟨d2, ue, uf0⟩ := hu
        exact ⟨d2, ue, uf0.keep hb⟩
      · obtain ⟨d2, ue, uf0⟩ := hu
        exact ⟨d2, ue, uf0.keep hb⟩
      · obtain ⟨d2, ue, uf0⟩ := hu
        exact ⟨d2, ue, uf0.keep hb⟩
      · exact hu
      · trivial
    case tail =>
      intro f w7 hb7 hU
      obtain ⟨d2, u10, v10_0⟩ : ∃ (d2 : DV), f 35 = d2.v ∧ DkV w7 d2 (D.write l.from_ (hdr e2 l.nx)) := hU.get 10 (by decide)
      simp only [List.drop_succ_cons, List.drop_zero, putAll, List.foldl_cons, List.foldl_nil]
      go_frame
      simp only [u10]
      clear u10
      clear hU
      have m2 := k2.keep hb7
      have m3 := k3.keep hb7
      have m4 := k4.keep hb7
      have m5 := k5.keep hb7
      have C := B.trans (hb7.mono B.size)
      clear hb7 k2 k3 k4 k5 hd B l2 l3
      go_wp2_with ((with_reducible refine is_store 38 ?_); refine wp_storeB (w.heap.size + 1) _ _ d2.cs m3 diskN rfl (dv_one _) rfl rfl ?_; intro w8 k8 r8; go_frame)
      refine noPanic_ok ?_
      have hd8 := v10_0.kept (Kept.grown r8 m3 notDk)
      have n2 := m2.grown r8 (by simp)
      have n4 := m4.grown r8 (by simp)
      have n5 := m5.grown r8 (by simp)
      have C8 := C.grown r8 C.size (fun q hq => by cases hq; omega)
      clear m2 m3 m4 m5 C r8 v10_0
      go_wp2_with fail
      obtain ⟨x0, x1, x2, x3, x4⟩ := k8.c5
      have l3 := k8.lt
      have R := fun wx => sync_any d2 wx
      unfold DV.v at R
      have HR := hid R
      clear R
      obtain ⟨z0, z1, z2, z3, z4, z5⟩ := n2.c6
      dsimp only at z0 z1 z2 z3 z4 z5
      have l2 := n2.lt
      go_region_law (first
        | (go_simp; go_at_call 28; refine (HR.out _).mono ?_; rintro e w10 ⟨rfl, b10⟩; unfold DV.sync; have b10' : Below w8.heap.size w8 w10 := (Below.refl _ _).drew.trans b10; have q2 := n2.keep b10'; have q4 := n4.keep b10'; have q5 := n5.keep b10'; obtain ⟨y0, y1, y2, y3, y4, y5⟩ := q2.c6; dsimp only at y0 y1 y2 y3 y4 y5; have lq2 := q2.lt; have f4 := q4.fz; obtain ⟨c0, c1, c2, c3, c4⟩ := q4.c5; obtain ⟨s4, g4⟩ := set5 q4 rfl (.int .i64 d2.n) (.pointer d2.c) (.pointer d2.c) (.pointer none) (.int .i64 0); have q2s := q2.grown g4 (by simp); have q5s := q5.grown g4 (by simp); have f5 := q5s.fz; obtain ⟨b0, b1, b2, b3, b4, b5⟩ := q2s.c6; dsimp only at b0 b1 b2 b3 b4 b5; obtain ⟨a0, a1, a2, a3, a4, a5⟩ := q5s.c6))
      all_goals (
        obtain ⟨s5, g5⟩ := set6 q5s rfl (.int .i64 l.from_) (.int .i64 l.size) (.int .u64 e2) (.int .u64 1) (.int .u64 l.nx) (.int .i64 ((l.from_ : Int) + 1))
        have hd10 := hd8.keep b10'
        have C10 := C8.trans (b10'.mono C8.size)
        have hs10 := (hd10.sync.kept (Kept.grown g4 q4 notDk)).kept (Kept.grown g5 q5s (by unfold dkT; decide))
        have C11 := C10.grown g4 C10.size (fun q hq => by cases hq; omega)
        have C12 := C11.grown g5 C11.size (fun q hq => by cases hq; omega)
        have s4' := s4.grown g5 (by simp)
        clear x0 x1 x2 x3 x4 z0 z1 z2 z3 z4 z5 y0 y1 y2 y3 y4 y5 b0 b1 b2 b3 b4 b5 c0 c1 c2 c3 c4 a0 a1 a2 a3 a4 a5 f4 f5 s4 q2s q5s hd10 C10 C11 g4 g5 q2 q4 q5 lq2 l3 l2 n2 n4 n5 k8 hd8 C8 b10 b10' HR
        generalize World.setCell (World.setCell _ _ _) _ _ = w11 at s5 s4' hs10 C12 ⊢
        obtain ⟨a0, a1, a2, a3, a4⟩ := s4'.c5
        obtain ⟨e0, e1', e2', e3, e4, e5⟩ := s5.c6
        simp only [List.getElem_toArray, List.getElem_cons_succ, List.getElem_cons_zero]
        go_frame
        go_wp2_with fail
        refine bodyPost_ret (v := .tuple #[d2.sync.v, .agg #[.int .i64 l.from_, .int .i64 l.size, .int .u64 e2, .int .u64 1, .int .u64 l.nx, .int .i64 ((l.from_ : Int) + 1)], .int .i64 0]) (by simp [results, Tryd.results27, go_sem, a0, a1, a2, a3, a4, e0, e1', e2', e3, e4, e5]; rfl) rfl ?_
        refine ⟨d2.sync, ?_, ?_, C12⟩
        · unfold Lg.anew Lg.v
          rw [HE.out]
          rfl
        · unfold Lg.anew
          rw [HE.out]
          exact hs10)
end Go.Proofs.YtlokfndonjldpaaDoor

