/- Create of package wal, walked. Conditions: the disk reads; the table of remainders is laid. -/
import Derived.Test.YtlokfndonjldpaaDoorReset
set_option linter.unusedSimpArgs false
set_option linter.unusedVariables false
namespace Go.Proofs.YtlokfndonjldpaaDoor
open Go.RowKit

theorem three_boxes {w w3 : World} {T1 T2 T3 : TypeId} {cs1 cs2 cs3 : List Value} (e : ((w.alloc (.cells cs1.toArray T1)).alloc (.cells cs2.toArray T2)).alloc (.cells cs3.toArray T3) = w3) :
    Blk w3 w.heap.size T1 cs1 ∧ Blk w3 (w.heap.size + 1) T2 cs2 ∧ Blk w3 (w.heap.size + 2) T3 cs3 ∧ Below w.heap.size w w3 := by
  subst e
  have h1 := Blk.new w T1 cs1
  have h2 := Blk.new (w.alloc (.cells cs1.toArray T1)) T2 cs2
  have h3 := Blk.new ((w.alloc (.cells cs1.toArray T1)).alloc (.cells cs2.toArray T2)) T3 cs3
  have up : ∀ {v : World} (o : Obj), Below v.heap.size v (v.alloc o) := fun o => (Below.refl _ _).alloc (Nat.le_refl _) _
  refine ⟨(h1.keep (up _)).keep (up _), ?_, ?_, (((Below.refl _ _).alloc (Nat.le_refl _) _).alloc (by simp) _).alloc (by simp; omega) _⟩
  · have := h2.keep (up (.cells cs3.toArray T3))
    simpa using this
  · simpa using h3
/-- the disk with an empty log -/
def created (D : Dk) (f n : Nat) : Dk := ((putSecs D (f + 1) (List.replicate (n - 1) zero128)).write f (hdr 1 1)).sync
def Lg.first (f n : Nat) : Lg := ⟨f, n, 1, 1, 1, f + 1⟩
set_option maxRecDepth 100000 in
set_option maxHeartbeats 4000000 in
theorem create_no (d : DV) (f n : Int) (w : World) (h : n < 2 ∨ f < 0 ∨ (d.n : Int) < f + n) (hn : d.n ≤ 16384) (h0 : -1000000 ≤ f) (hf : f ≤ 1000000) (h1 : -1000000 ≤ n) (hs : n ≤ 1000000) :
    Calls Tryd.prog 26 #[d.v, .int .i64 f, .int .i64 n] w fun e w' => e = .returned (.tuple #[DV.zero.v, Lg.zero.v, .int .i64 3]) ∧ Below w.heap.size w w' := by
    have HI := hid (fun w' => inside_no d f n 2 w' h hn h0 hf h1 hs (Nat.le_refl _))
    unfold DV.v at HI
    clear h
    rw [show d.v = Value.agg #[.int .i64 d.n, .pointer d.s, .pointer d.c, .pointer d.l, .int .i64 d.m] from rfl]
    go_enter Tryd.func26, Tryd.ntmps26
    go_wp2_with fail
    generalize hw3 : World.alloc (World.alloc (World.alloc w _) _) _ = v3
    obtain ⟨k3, k4, k5, B⟩ := three_boxes (cs1 := d.cs) (cs2 := DV.zero.cs) (cs3 := Lg.zero.cs) hw3
    clear hw3
    refine (HI.out v3).mono ?_
    rintro e w4 ⟨rfl, b4⟩
    replace k4 := k4.keep b4
    replace k5 := k5.keep b4
    replace B := B.trans (b4.mono B.size)
    clear HI b4 k3
    go_wp2_with (first
      | ((with_reducible refine is_store 38 ?_); refine wp_storeB (w.heap.size + 1) _ _ DV.zero.cs k4 diskN rfl (dv_one _) rfl rfl ?_; intro w5 k6 r6; go_frame)
      | ((with_reducible refine is_store 44 ?_); refine wp_storeB (w.heap.size + 2) _ _ Lg.zero.cs (k5.grown r6 (by simp)) logN rfl (lg_one _) rfl rfl ?_; intro w8 k8 r8; go_frame))
    have k6' := k6.grown r8 (by simp)
    obtain ⟨x0, x1, x2, x3, x4⟩ := k6'.c5
    obtain ⟨e0, e1, e2, e3, e4, e5⟩ := k8.c6
    refine bodyPost_ret (v := .tuple #[DV.zero.v, Lg.zero.v, .int .i64 3]) (by simp [results, Tryd.results26, go_sem, x0, x1, x2, x3, x4, e0, e1, e2, e3, e4, e5]; exact ⟨rfl, rfl⟩) rfl ⟨rfl, (B.grown r6 B.size (fun k hk => by cases hk; omega)).grown r8 (by have := B.size; have := r6.size; omega) (fun k hk => by cases hk; omega)⟩

set_option maxRecDepth 100000 in
set_option maxHeartbeats 4000000 in
theorem create_good (d : DV) (D : Dk) (fr n : Nat) (w : World) (hd : DkV w d D) (hT : Tab w) (h2 : 2 ≤ n) (hin : fr + n ≤ D.n) (hDW : D.W.length ≤ 1000000) :
    Calls Tryd.prog 26 #[d.v, .int .i64 fr, .int .i64 n] w fun e w' => ∃ d' : DV, e = .returned (.tuple #[d'.v, (Lg.first fr n).v, .int .i64 0]) ∧ DkV w' d' (created D fr n) ∧ Below w.heap.size w w' := by
    have hdn := hd.hn
    have HI := hid (fun w' => inside_yes d fr n 2 w' (by rw [hd.n]; exact hin) h2 (by rw [hd.n]; exact hdn))
    have HTb := hid hT
    unfold DV.v at HI
    have HDk := hid hd
    clear hT hd
    rw [show d.v = Value.agg #[.int .i64 d.n, .pointer d.s, .pointer d.c, .pointer d.l, .int .i64 d.m] from rfl]
    go_enter Tryd.func26, Tryd.ntmps26
    go_wp2_with fail
    generalize hw3 : World.alloc (World.alloc (World.alloc w _) _) _ = v3
    obtain ⟨k3, k4, k5, B⟩ := three_boxes (cs1 := d.cs) (cs2 := DV.zero.cs) (cs3 := Lg.zero.cs) hw3
    clear hw3
    refine (HI.out v3).mono ?_
    rintro e w4 ⟨rfl, b4⟩
    replace k3 := k3.keep b4
    replace k4 := k4.keep b4
    replace k5 := k5.keep b4
    replace B := B.trans (b4.mono B.size)
    have hd := HDk.out.keep B
    have hb5 := k5.lt
    clear HI b4 HDk
    go_wp2_with (at_make; refine wp_make _ rfl _ _ 25 rfl w4.heap.size 5 _ 1 bytesT rfl .i64 .i64 _ _ 128 rfl rfl rfl rfl (by omega) (by unfold maxLen; omega) (Nat.le_refl _) ?_; intro w5 hown5 r5; go_frame)
    have hz : SlR (fun b => w4.heap.size ≤ b) w5 ⟨some ⟨w4.heap.size, 0, none⟩, 128, 128⟩ zero128 := ⟨RN.own (by rw [byV_zeros] at hown5; exact hown5) (fun b hb => hb), Nat.le_refl _, (by decide : (128 : Nat) ≤ 9223372036854775807)⟩
    replace k3 := k3.grown r5 (by intro h; cases h)
    replace k4 := k4.grown r5 (by intro h; cases h)
    replace k5 := k5.grown r5 (by intro h; cases h)
    replace hd := hd.kept (.none r5)
    replace B := B.grown r5 B.size (fun q hq => by cases hq)
    replace hz := hz.mono (N' := fun b => w.heap.size + 2 < b) (fun b hb => by omega)
    clear hown5 r5
    generalize w4.heap.size = gz at *
    go_loopw [10] (fun i wr => ∃ (j : Nat) (d' : DV), j + 1 ≤ n ∧ i = .int .i64 ((j + 1 : Nat) : Int) ∧ Blk wr w.heap.size 38 d'.cs ∧ DkV wr d' (putSecs D (fr + 1) (List.replicate j zero128)) ∧ SlR (fun b => w.heap.size + 2 < b) wr ⟨some ⟨gz, 0, none⟩, 128, 128⟩ zero128 ∧
      Blk wr (w.heap.size + 1) 38 DV.zero.cs ∧ Blk wr (w.heap.size + 2) 44 Lg.zero.cs ∧ Below w.heap.size w wr) (fun i _ => n - (intOf i).toNat)
    case atStart => exact ⟨0, d, by omega, rfl, k3, hd, hz, k4, k5, B⟩
    case round =>
      obtain ⟨j, d', hj, rfl, k3, hdj, hzr, k4, k5, hbel⟩ := hrel
      have HJ : Hid (fr < (putSecs D (fr + 1) (List.replicate j zero128)).n ∧ (putSecs D (fr + 1) (List.replicate j zero128)).W.length < 4611686018427387904 ∧ fr + 1 + j < (putSecs D (fr + 1) (List.replicate j zero128)).n + 1) := by
        refine hid ⟨by rw [putSecs_n]; omega, ?_, by rw [putSecs_n]; omega⟩
        rw [putSecs_W, List.length_replicate]
        omega
      have HNx : Hid (putSecs D (fr + 1) (List.replicate (j + 1) zero128) = (putSecs D (fr + 1) (List.replicate j zero128)).write (fr + 1 + j) zero128) := by
        show _ = _
        rw [List.replicate_succ', putSecs_snoc, List.length_replicate]
      obtain ⟨x0, x1, x2, x3, x4⟩ := k3.c5
      have l3 := k3.lt
      by_cases hlt : j + 1 < n
      · have HJ2 : Hid (fr + 1 + j < (putSecs D (fr + 1) (List.replicate j zero128)).n) := hid (by rw [putSecs_n]; omega)
        obtain ⟨Dj, hDj⟩ : ∃ z, putSecs D (fr + 1) (List.replicate j zero128) = z := ⟨_, rfl⟩
        rw [hDj] at hdj HJ HNx HJ2
        clear hDj
        have R := write_good d' Dj (some ⟨gz, 0, none⟩) 128 zero128 (fr + 1 + j) wr hdj HJ2.out hzr.rb HJ.out.2.1
        rw [show ((fr + 1 + j : Nat) : Int) = (fr : Int) + ((j : Int) + 1) by omega] at R
        unfold DV.v at R
        go_wp2_with fail
        refine R.mono ?_
        clear R
        rintro e w6 ⟨d2, rfl, hd2, b6⟩
        have m3 := k3.keep b6
        have m4 := k4.keep b6
        have m5 := k5.keep b6
        have mz := hzr.keep b6
        have C := hbel.trans (b6.mono hbel.size)
        clear x0 x1 x2 x3 x4 l3 k3 k4 k5 hzr hdj hbel b6
        go_wp2_with ((with_reducible refine is_store 38 ?_); refine wp_storeB w.heap.size _ _ d2.cs m3 diskN rfl (dv_one _) rfl rfl ?_; intro w8 k8 r8; go_frame)
        have hd8 := hd2.kept (Kept.grown r8 m3 notDk)
        rw [← HNx.out] at hd8
        have n4 := m4.grown r8 (by simp)
        have n5 := m5.grown r8 (by simp)
        have nz := mz.grown r8 (fun g hg hN => by cases hg; omega)
        have C8 := C.grown r8 C.size (fun q hq => by cases hq; exact Nat.le_refl _)
        clear m3 m4 m5 mz C r8 hd2
        go_roundw
        case rel => exact ⟨j + 1, d2, by omega, by go_num, k8, hd8, nz, n4, n5, C8⟩
        case measure => simp [intOf]; omega
      · have HC : Hid (created D fr n = ((putSecs D (fr + 1) (List.replicate j zero128)).write fr (hdr 1 1)).sync) := by
          show _ = _
          unfold created
          rw [show n - 1 = j by omega]
        have t1 : ¬ ((j + 1 : Nat) : Int) < (n : Int) := by omega
        obtain ⟨Dj, hDj⟩ : ∃ z, putSecs D (fr + 1) (List.replicate j zero128) = z := ⟨_, rfl⟩
        rw [hDj] at hdj HJ HNx HC
        clear hDj x0 x1 x2 x3 x4
        go_wp2_with fail
        refine wp_region_headF 47 7 [34, 35, 36, 37, 33, 38, 39] [6] ((fun kq => ([fun u w' => u = d'.v, fun u w' => u = .int .i64 fr, fun u w' => ∃ (g' : Nat), u = .slice (some ⟨g', 0, none⟩) 128 128 ∧ BlkB w' g' 83 (hdr 1 1), fun u w' => ∃ (d2 : DV), u = .tuple #[d2.v, .int .i64 0] ∧ DkV w' d2 (Dj.write fr (hdr 1 1)), fun u w' => ∃ (d2 : DV), u = .tuple #[d2.v, .int .i64 0] ∧ DkV w' d2 (Dj.write fr (hdr 1 1)), fun u w' => ∃ (d2 : DV), u = d2.v ∧ DkV w' d2 (Dj.write fr (hdr 1 1)), fun u w' => u = .int .i64 0] : List (Value → World → Prop)).getD kq (fun _ _ => True))) (by kernel_rfl) rfl (by kernel_rfl) ?grow ?step ?tail
        case step =>
          simp only [List.take_succ_cons, List.take_zero]
          refine HSteps.cons ?_ ?_
          · intro f w' hb hU
            obtain ⟨x0', x1', x2', x3', x4'⟩ := (k3.keep hb).c5
            simp only [putAll, List.foldl_cons, List.foldl_nil]
            go_frame
            go_wp2_with fail
            exact ⟨rfl, _, rfl, Below.refl _ _, rfl⟩
          refine HSteps.cons ?_ ?_
          · intro f w' hb hU
            simp only [putAll, List.foldl_cons, List.foldl_nil]
            go_frame
            go_wp2_with fail
            exact ⟨rfl, _, rfl, Below.refl _ _, rfl⟩
          refine HSteps.cons ?_ ?_
          · intro f w' hb hU
            have R := header_any 1 1 w' (by decide) (by decide) (HTb.out.keep (hbel.trans (hb.mono hbel.size)))
            simp only [putAll, List.foldl_cons, List.foldl_nil]
            go_frame
            go_wp2_with fail
            refine (R).mono ?_
            rintro e w3 ⟨g', rfl, _, hg', b3⟩
            go_wp2_with fail
            exact ⟨rfl, _, rfl, b3, g', rfl, hg'⟩
          refine HSteps.cons ?_ ?_
          · intro f w' hb hU
            obtain u0 : f 34 = d'.v := hU.get ⟨0, .data⟩ (by simp) rfl
            obtain u1 : f 35 = .int .i64 fr := hU.get ⟨1, .data⟩ (by simp) rfl
            obtain ⟨g', u2, v2_0⟩ : ∃ (g' : Nat), f 36 = .slice (some ⟨g', 0, none⟩) 128 128 ∧ BlkB w' g' 83 (hdr 1 1) := hU.get ⟨2, .data⟩ (by simp) rfl
            have R := write_good d' Dj (some ⟨g', 0, none⟩) 128 (hdr 1 1) fr w' (hdj.keep hb) HJ.out.1 (BlkB.cells v2_0 (hdr_len 1 1)) HJ.out.2.1
            simp only [putAll, List.foldl_cons, List.foldl_nil]
            go_frame
            try simp only [u0, u1, u2]
            go_wp2_with fail
            refine (R).mono ?_
            rintro e w3 ⟨d2, rfl, hd2, b3⟩
            go_wp2_with fail
            exact ⟨rfl, _, rfl, b3, d2, rfl, hd2⟩
          refine HSteps.cons ?_ ?_
          · intro f w' hb hU
            obtain ⟨d2, u3, v3_0⟩ : ∃ (d2 : DV), f 37 = .tuple #[d2.v, .int .i64 0] ∧ DkV w' d2 (Dj.write fr (hdr 1 1)) := hU.get ⟨3, .data⟩ (by simp) rfl
            simp only [putAll, List.foldl_cons, List.foldl_nil]
            go_frame
            try simp only [u3]
            go_wp2_with fail
            exact ⟨rfl, _, rfl, Below.refl _ _, d2, rfl, v3_0⟩
          refine HSteps.cons ?_ ?_
          · intro f w' hb hU
            obtain ⟨d2, u4, v4_0⟩ : ∃ (d2 : DV), f 33 = .tuple #[d2.v, .int .i64 0] ∧ DkV w' d2 (Dj.write fr (hdr 1 1)) := hU.get ⟨4, .data⟩ (by simp) rfl
            simp only [putAll, List.foldl_cons, List.foldl_nil]
            go_frame
            try simp only [u4]
            go_wp2_with fail
            exact ⟨rfl, _, rfl, Below.refl _ _, d2, rfl, v4_0⟩
          refine HSteps.cons ?_ ?_
          · intro f w' hb hU
            obtain ⟨d2, u4, v4_0⟩ : ∃ (d2 : DV), f 33 = .tuple #[d2.v, .int .i64 0] ∧ DkV w' d2 (Dj.write fr (hdr 1 1)) := hU.get ⟨4, .data⟩ (by simp) rfl
            simp only [putAll, List.foldl_cons, List.foldl_nil]
            go_frame
            try simp only [u4]
            go_wp2_with fail
            exact ⟨rfl, _, rfl, Below.refl _ _, rfl⟩
          exact HSteps.nil
        case grow =>
          intro kq u wa wb hb hu
          rcases kq with _ | _ | _ | _ | _ | _ | _ | kq
          · exact hu
          · exact hu
          · obtain ⟨g', ue, uf0⟩ := hu
            exact ⟨g', ue, uf0.keep hb⟩
          · obtain ⟨d2, ue, uf0⟩ := hu
            exact ⟨d2, ue, uf0.keep hb⟩
          · obtain ⟨d2, ue, uf0⟩ := hu
            exact ⟨d2, ue, uf0.keep hb⟩
          · obtain ⟨d2, ue, uf0⟩ := hu
            exact ⟨d2, ue, uf0.keep hb⟩
          · exact hu
          · trivial
        case tail =>
          intro f w7 hb7 hU
          obtain ⟨d2, u5, v5_0⟩ : ∃ (d2 : DV), f 38 = d2.v ∧ DkV w7 d2 (Dj.write fr (hdr 1 1)) := hU.get 5 (by decide)
          simp only [List.drop_succ_cons, List.drop_zero, putAll, List.foldl_cons, List.foldl_nil]
          go_frame
          simp only [u5]
          clear u5
          clear hU
          have m3 := k3.keep hb7
          have m4 := k4.keep hb7
          have m5 := k5.keep hb7
          have C := hbel.trans (hb7.mono hbel.size)
          clear hb7 k3 k4 k5 hdj hbel l3 hzr
          go_wp2_with ((with_reducible refine is_store 38 ?_); refine wp_storeB w.heap.size _ _ d2.cs m3 diskN rfl (dv_one _) rfl rfl ?_; intro w8 k8 r8; go_frame)
          refine noPanic_ok ?_
          have hd8 := v5_0.kept (Kept.grown r8 m3 notDk)
          have n4 := m4.grown r8 (by simp)
          have n5 := m5.grown r8 (by simp)
          have C8 := C.grown r8 C.size (fun q hq => by cases hq; exact Nat.le_refl _)
          clear m3 m4 m5 C r8 v5_0
          obtain ⟨x0, x1, x2, x3, x4⟩ := k8.c5
          have l3 := k8.lt
          have R := sync_any d2 w8
          unfold DV.v at R
          go_wp2_with fail
          refine R.mono ?_
          clear R
          rintro e w9 ⟨rfl, b9⟩
          have q4 := n4.keep b9
          have q5 := n5.keep b9
          have hd9 := (hd8.keep b9).sync
          have C9 := C8.trans (b9.mono C8.size)
          clear x0 x1 x2 x3 x4 l3 k8 hd8 n4 n5 C8 b9
          go_wp2_with (first
            | ((with_reducible refine is_store 38 ?_); refine wp_storeB (w.heap.size + 1) _ _ d2.sync.cs q4 diskN rfl (dv_one _) rfl rfl ?_; intro w10 k10 r10; go_frame)
            | ((with_reducible refine is_store 44 ?_); refine wp_storeB (w.heap.size + 2) _ _ (Lg.first fr n).cs (q5.grown r10 (by simp)) logN rfl (lg_one _) rfl rfl ?_; intro w11 k11 r11; go_frame))
          have k10' := k10.grown r11 (by simp)
          obtain ⟨x0, x1, x2, x3, x4⟩ := k10'.c5
          obtain ⟨e0, e1, e2, e3, e4, e5⟩ := k11.c6
          refine bodyPost_ret (v := .tuple #[d2.sync.v, (Lg.first fr n).v, .int .i64 0]) (by simp [results, Tryd.results26, go_sem, x0, x1, x2, x3, x4, e0, e1, e2, e3, e4, e5]; exact ⟨rfl, rfl⟩) rfl ?_
          rw [HC.out]
          exact ⟨d2.sync, rfl, (hd9.kept (Kept.grown r10 q4 notDk)).kept (Kept.grown r11 (q5.grown r10 (by simp)) (by unfold dkT; decide)), (C9.grown r10 C9.size (fun k hk => by cases hk; omega)).grown r11 (by have := C9.size; have := r10.size; omega) (fun k hk => by cases hk; omega)⟩
end Go.Proofs.YtlokfndonjldpaaDoor

