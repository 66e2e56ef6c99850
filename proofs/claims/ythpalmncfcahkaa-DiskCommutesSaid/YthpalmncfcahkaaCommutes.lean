/- The walk of DiskCommutes, every argument. Conditions: the acts read. -/
import Derived.Test.YthpalmncfcahkaaPair
import Derived.Test.YthpalmncfcahkaaCommK
set_option linter.unusedSimpArgs false
set_option linter.unusedVariables false
namespace Go.Proofs.Ythpalmncfcahkaa
open Go.RowKit

theorem Blk.ne {w : World} {g h : Nat} {t u : TypeId} {cs ds : List Value} (k1 : Blk w g t cs) (k2 : Blk w h u ds) (ht : t ≠ u) : ¬ g = h := by
  rintro rfl
  unfold Blk at k1 k2
  rw [k1] at k2
  cases k2
  exact ht rfl
set_option maxRecDepth 100000 in
set_option maxHeartbeats 4000000 in
theorem commutes_go (q : Nat) (act1 : Nat) (p : Int) (a1 b1 : UInt8) (c1 : Nat) (act2 : Nat) (r : Int) (a2 b2 : UInt8) (c2 : Nat) (w : World) (h1 : 1 ≤ q) (h2 : q ≤ 12) (hpr : p ≠ r)
    (ok1 : (⟨0, p, a1, b1, c1⟩ : Ac).ok) (ok2 : (⟨0, r, a2, b2, c2⟩ : Ac).ok) :
    Calls Try.prog 8 #[.int .i64 q, (⟨act1, p, a1, b1, c1⟩ : Ac).v, (⟨act2, r, a2, b2, c2⟩ : Ac).v] w fun e w' => e = .returned (.bool true) ∧ Below w.heap.size w w' := by
    have h3 : (p == r) = false := by simpa using hpr
    obtain ⟨D0, hD0⟩ : ∃ z, Dk.new q = z := ⟨_, rfl⟩
    obtain ⟨E1, hE1⟩ : ∃ z, doK D0 ⟨0, p, a1, b1, c1⟩ = z := ⟨_, rfl⟩
    obtain ⟨F1, hF1⟩ : ∃ z, doK E1 ⟨0, r, a2, b2, c2⟩ = z := ⟨_, rfl⟩
    obtain ⟨E2, hE2⟩ : ∃ z, doK D0 ⟨0, r, a2, b2, c2⟩ = z := ⟨_, rfl⟩
    obtain ⟨F2, hF2⟩ : ∃ z, doK E2 ⟨0, p, a1, b1, c1⟩ = z := ⟨_, rfl⟩
    have HD0 : Hid (D0.n = q ∧ D0.W.length ≤ 1) := by rw [← hD0]; exact hid ⟨rfl, by simp [Dk.new]⟩
    have HE1 : Hid (E1.n = q ∧ E1.W.length ≤ 1) := by rw [← hE1, ← hD0]; exact hid ⟨by rw [doK_n]; rfl, by have := doK_W (Dk.new q) ⟨0, p, a1, b1, c1⟩; simpa [Dk.new] using this⟩
    have HE2 : Hid (E2.n = q ∧ E2.W.length ≤ 1) := by rw [← hE2, ← hD0]; exact hid ⟨by rw [doK_n]; rfl, by have := doK_W (Dk.new q) ⟨0, r, a2, b2, c2⟩; simpa [Dk.new] using this⟩
    have HF1 : Hid (F1.n = q ∧ F2.n = q) := by rw [← hF1, ← hF2]; exact hid ⟨by rw [doK_n, HE1.out.1], by rw [doK_n, HE2.out.1]⟩
    have HL : Hid (F1.W.length = F2.W.length) := hid (by rw [← hF1, ← hF2, ← hE1, ← hE2, ← hD0]; exact comm_W q p r a1 b1 a2 b2 c1 c2)
    have HC : Hid (∀ i, F1.cur i = F2.cur i) := hid (by rw [← hF1, ← hF2, ← hE1, ← hE2, ← hD0]; exact comm_cur q p r hpr a1 b1 a2 b2 c1 c2)
    have HS : Hid (F1.sync.same F2.sync) := hid (by rw [← hF1, ← hF2, ← hE1, ← hE2, ← hD0]; exact comm_same q p r hpr a1 b1 a2 b2 c1 c2)
    have HD0_E1 := hid hE1
    have HE1_F1 := hid hF1
    have HD0_E2 := hid hE2
    have HE2_F2 := hid hF2
    have HDk := hid hD0
    clear hpr hE1 hF1 hE2 hF2 hD0
    unfold Ac.v
    go_enter Try.func8, Try.ntmps8
    go_wp2_with fail
    generalize hw3 : World.alloc (World.alloc w _) _ = v3
    obtain ⟨A1, A2, B⟩ := two_boxes_r (cs1 := (⟨act1, p, a1, b1, c1⟩ : Ac).cs) (cs2 := (⟨act2, r, a2, b2, c2⟩ : Ac).cs) hw3
    clear hw3
    obtain ⟨W0, hW⟩ : ∃ z, z = w.heap.size := ⟨_, rfl⟩
    obtain ⟨H2, hH2⟩ : ∃ H2, W0 + 1 = H2 := ⟨_, rfl⟩
    obtain ⟨H1, hH1⟩ : ∃ H1, W0 = H1 := ⟨_, rfl⟩
    have HB : Hid (W0 ≤ H1 ∧ W0 ≤ H2 ∧ ¬ H1 = H2) := hid ⟨by omega, by omega, by omega⟩
    rw [← hW] at A1 A2
    rw [← hW, hH1] 
    rw [hH1] at A1 A2
    rw [hH1] at hH2
    rw [hH2] at A2 ⊢
    clear hH1 hH2
    refine (few_yes q none 0 0 v3 h1 h2 (by omega)).mono ?_
    rintro e w' ⟨rfl, rfl⟩
    obtain ⟨x0, x1, x2, x3, x4⟩ := A1.c5
    obtain ⟨y0, y1, y2, y3, y4⟩ := A2.c5
    have l1 := A1.lt
    have l2 := A2.lt
    have f1 := A1.fz
    have f2 := A2.fz
    go_wp2_with fail
    refine (new_ok q _ h1 (by omega)).mono ?_
    rintro e w1 ⟨rfl, bb⟩
    replace A1 := A1.keep bb
    replace A2 := A2.keep bb
    replace B := B.trans (bb.mono B.size)
    clear x0 x1 x2 x3 x4 y0 y1 y2 y3 y4 l1 l2 f1 f2 bb
    simp only [DV.v, show ((0 : Nat) : Int) = 0 from rfl]
    have l1 := A1.lt
    have l2 := A2.lt
    have hb12 := HB.out.2.2
    go_wp2_with (first
      | ((with_reducible refine is_alloc 25 ?_); refine wp_allocB _ arrDisk ?_; intro v2 k2 bb2 ss2; go_frame)
      | ((with_reducible refine is_store 25 ?_); refine wp_storeB w1.heap.size _ _ (⟨q, none, none, none, 0⟩ : DV).cs k2 diskN rfl (dv_one _) rfl rfl ?_; intro v4 k4 r4; go_frame)
      | ((with_reducible refine is_store 5 ?_); refine wp_store1 H1 0 _ _ (.int .u8 0) ((A1.keep bb2).grown r4 (by simp; omega)) rfl bytesN (by simp [Ac.cs]) rfl rfl rfl ?_; intro v5 k5 r5; go_frame)
      | ((with_reducible refine is_store 5 ?_); refine wp_store1 H2 0 _ _ (.int .u8 0) (((A2.keep bb2).grown r4 (by simp; omega)).grown r5 (by simp; omega)) rfl bytesN (by simp [Ac.cs]) rfl rfl rfl ?_; intro v6 k6 r6; go_frame))
    subst hW
    have n1 : ¬ H1 = w1.heap.size ∧ ¬ H2 = w1.heap.size := ⟨by omega, by omega⟩
    have P0 : Bx v6 w1.heap.size ⟨q, none, none, none, 0⟩ D0 := ⟨(k4.grown r5 (by simpa using n1.1)).grown r6 (by simpa using n1.2), HDk.out ▸ DkV.new v6 q (by omega)⟩
    have Bn : Below w.heap.size w v6 := (((B.trans (bb2.mono B.size)).grown r4 (B.trans (bb2.mono B.size)).size (fun k hk => by cases hk; exact B.size)).grown r5 (by have := B.size; have := bb2.size; have := r4.size; omega) (fun k hk => by cases hk; exact HB.out.1)).grown r6 (by have := B.size; have := bb2.size; have := r4.size; have := r5.size; omega) (fun k hk => by cases hk; exact HB.out.2.1)
    replace A1 : Blk v6 H1 53 (⟨0, p, a1, b1, c1⟩ : Ac).cs := k5.grown r6 (by simpa using fun e => hb12 e.symm)
    replace A2 : Blk v6 H2 53 (⟨0, r, a2, b2, c2⟩ : Ac).cs := k6
    replace B := Bn
    have hG : w.heap.size ≤ w1.heap.size := by have := B.size; have := HB.out.1; omega
    clear Bn k2 k4 k5 k6 r4 r5 r6 bb2 ss2 l1 l2 n1
    generalize w1.heap.size = G at *
    obtain ⟨d0, hd0⟩ : ∃ z, (⟨q, none, none, none, 0⟩ : DV) = z := ⟨_, rfl⟩
    rw [hd0] at P0
    clear hd0
    have LL := hid (And.intro P0.k.lt (And.intro A1.lt A2.lt))
    refine wp_region_headF 118 11 [39, 40, 41, 42, 43, 38, 44, 45, 46, 9, 10] [7, 8] ((fun kq => ([fun u w' => u = d0.v, fun u w' => u = .int .i64 q, fun u w' => ∃ (x : Rv), u = x.v ∧ RefV (fun _ => True) w' x (Dk.new q), fun u w' => u = (⟨0, p, a1, b1, c1⟩ : Ac).v, fun u w' => ∃ (d1 : DV), ∃ (x1 : Rv), u = .tuple #[d1.v, x1.v, .bool true] ∧ DkV w' d1 E1, fun u w' => ∃ (d1 : DV), ∃ (x1 : Rv), u = .tuple #[d1.v, x1.v, .bool true] ∧ DkV w' d1 E1, fun u w' => ∃ (d1 : DV), ∃ (x1 : Rv), u = d1.v ∧ DkV w' d1 E1, fun u w' => ∃ (x2 : Rv), u = x2.v, fun u w' => u = .bool true, fun u w' => ∃ (b9 : Nat), u = .pointer (some ⟨b9, 0, none⟩) ∧ v6.heap.size ≤ b9 ∧ Blk w' b9 25 DV.zero.cs, fun u w' => ∃ (b10 : Nat), u = .pointer (some ⟨b10, 0, none⟩) ∧ v6.heap.size ≤ b10 ∧ Blk w' b10 48 Rv.zero.cs] : List (Value → World → Prop)).getD kq (fun _ _ => True))) (by kernel_rfl) rfl (by kernel_rfl) ?grow ?step ?tail
    case step =>
      simp only [List.take_succ_cons, List.take_zero]
      refine HSteps.cons ?_ ?_
      · intro f w' hb hU
        obtain ⟨x0', x1', x2', x3', x4'⟩ := (P0.k.keep hb).c5
        simp only [putAll, List.foldl_cons, List.foldl_nil]
        go_frame
        go_wp2_with fail
        exact ⟨rfl, _, rfl, Below.refl _ _, rfl⟩
      refine HSteps.cons ?_ ?_
      · intro f w' hb hU
        simp only [putAll, List.foldl_cons, List.foldl_nil]
        go_frame
        go_wp2_with fail
        exact ⟨rfl, _, rfl, Below.refl _ _, rfl⟩
      refine HSteps.cons ?_ ?_
      · intro f w' hb hU
        obtain u1 : f 40 = .int .i64 q := hU.get ⟨1, .data⟩ (by simp) rfl
        simp only [putAll, List.foldl_cons, List.foldl_nil]
        go_frame
        try simp only [u1]
        go_wp2_with fail
        refine (refNew_any q w' (by omega) (fun _ => True) (fun _ _ => trivial)).mono ?_
        rintro e w3 ⟨x, rfl, hx, b3⟩
        go_wp2_with fail
        exact ⟨rfl, _, rfl, b3, x, rfl, hx⟩
      refine HSteps.cons ?_ ?_
      · intro f w' hb hU
        obtain ⟨x0', x1', x2', x3', x4'⟩ := (A1.keep hb).c5
        simp only [putAll, List.foldl_cons, List.foldl_nil]
        go_frame
        go_wp2_with fail
        exact ⟨rfl, _, rfl, Below.refl _ _, rfl⟩
      refine HSteps.cons ?_ ?_
      · intro f w' hb hU
        obtain u0 : f 39 = d0.v := hU.get ⟨0, .data⟩ (by simp) rfl
        obtain ⟨x, u2, v2_0⟩ : ∃ (x : Rv), f 41 = x.v ∧ RefV (fun _ => True) w' x (Dk.new q) := hU.get ⟨2, .data⟩ (by simp) rfl
        obtain u3 : f 42 = (⟨0, p, a1, b1, c1⟩ : Ac).v := hU.get ⟨3, .data⟩ (by simp) rfl
        have R2 := do_any (fun _ => True) d0 x ⟨0, p, a1, b1, c1⟩ D0 (Dk.new q) w' (fun _ _ => trivial) (P0.d.keep hb) v2_0 (HD0.out.1.symm) ok1 (by have := HD0.out.2; omega) (by simp [Dk.new])
        rw [HD0_E1.out] at R2
        simp only [putAll, List.foldl_cons, List.foldl_nil]
        go_frame
        try simp only [u0, u2, u3]
        go_wp2_with fail
        refine (R2).mono ?_
        rintro e w3 ⟨d1, x1, rfl, hd1, hx1, b3⟩
        go_wp2_with fail
        exact ⟨rfl, _, rfl, b3, d1, x1, rfl, hd1⟩
      refine HSteps.cons ?_ ?_
      · intro f w' hb hU
        obtain ⟨d1, x1, u4, v4_0⟩ : ∃ (d1 : DV), ∃ (x1 : Rv), f 43 = .tuple #[d1.v, x1.v, .bool true] ∧ DkV w' d1 E1 := hU.get ⟨4, .data⟩ (by simp) rfl
        simp only [putAll, List.foldl_cons, List.foldl_nil]
        go_frame
        try simp only [u4]
        go_wp2_with fail
        exact ⟨rfl, _, rfl, Below.refl _ _, d1, x1, rfl, v4_0⟩
      refine HSteps.cons ?_ ?_
      · intro f w' hb hU
        obtain ⟨d1, x1, u5, v5_0⟩ : ∃ (d1 : DV), ∃ (x1 : Rv), f 38 = .tuple #[d1.v, x1.v, .bool true] ∧ DkV w' d1 E1 := hU.get ⟨5, .data⟩ (by simp) rfl
        simp only [putAll, List.foldl_cons, List.foldl_nil]
        go_frame
        try simp only [u5]
        go_wp2_with fail
        exact ⟨rfl, _, rfl, Below.refl _ _, d1, x1, rfl, v5_0⟩
      refine HSteps.cons ?_ ?_
      · intro f w' hb hU
        obtain ⟨d1, x1, u5, v5_0⟩ : ∃ (d1 : DV), ∃ (x1 : Rv), f 38 = .tuple #[d1.v, x1.v, .bool true] ∧ DkV w' d1 E1 := hU.get ⟨5, .data⟩ (by simp) rfl
        simp only [putAll, List.foldl_cons, List.foldl_nil]
        go_frame
        try simp only [u5]
        go_wp2_with fail
        exact ⟨rfl, _, rfl, Below.refl _ _, x1, rfl⟩
      refine HSteps.cons ?_ ?_
      · intro f w' hb hU
        obtain ⟨d1, x1, u5, v5_0⟩ : ∃ (d1 : DV), ∃ (x1 : Rv), f 38 = .tuple #[d1.v, x1.v, .bool true] ∧ DkV w' d1 E1 := hU.get ⟨5, .data⟩ (by simp) rfl
        simp only [putAll, List.foldl_cons, List.foldl_nil]
        go_frame
        try simp only [u5]
        go_wp2_with fail
        exact ⟨rfl, _, rfl, Below.refl _ _, rfl⟩
      refine HSteps.cons ?_ ?_
      · intro f w' hb hU
        have hP : Blk _ w'.heap.size 25 DV.zero.cs := Blk.new w' _ _
        have hb3 : Below w'.heap.size w' _ := (Below.refl _ _).alloc (Nat.le_refl _) (.cells (DV.zero.cs).toArray 25)
        simp only [putAll, List.foldl_cons, List.foldl_nil]
        go_frame
        go_wp2_with fail
        exact ⟨rfl, _, rfl, hb3, _, rfl, hb.size, hP⟩
      refine HSteps.cons ?_ ?_
      · intro f w' hb hU
        have hP : Blk _ w'.heap.size 48 Rv.zero.cs := Blk.new w' _ _
        have hb3 : Below w'.heap.size w' _ := (Below.refl _ _).alloc (Nat.le_refl _) (.cells (Rv.zero.cs).toArray 48)
        simp only [putAll, List.foldl_cons, List.foldl_nil]
        go_frame
        go_wp2_with fail
        exact ⟨rfl, _, rfl, hb3, _, rfl, hb.size, hP⟩
      exact HSteps.nil
    case grow =>
      intro kq u wa wb hb hu
      rcases kq with _ | _ | _ | _ | _ | _ | _ | _ | _ | _ | _ | kq
      · exact hu
      · exact hu
      · obtain ⟨x, ue, uf0⟩ := hu
        exact ⟨x, ue, uf0.keep hb⟩
      · exact hu
      · obtain ⟨d1, x1, ue, uf0⟩ := hu
        exact ⟨d1, x1, ue, uf0.keep hb⟩
      · obtain ⟨d1, x1, ue, uf0⟩ := hu
        exact ⟨d1, x1, ue, uf0.keep hb⟩
      · obtain ⟨d1, x1, ue, uf0⟩ := hu
        exact ⟨d1, x1, ue, uf0.keep hb⟩
      · exact hu
      · exact hu
      · obtain ⟨b9, ue, uf0, uf1⟩ := hu
        exact ⟨b9, ue, uf0, uf1.keep hb⟩
      · obtain ⟨b10, ue, uf0, uf1⟩ := hu
        exact ⟨b10, ue, uf0, uf1.keep hb⟩
      · trivial
    case tail =>
      intro f w7 hb7 hU
      obtain ⟨d1, x1, u6, v6_0⟩ : ∃ (d1 : DV), ∃ (x1 : Rv), f 44 = d1.v ∧ DkV w7 d1 E1 := hU.get 6 (by decide)
      obtain ⟨x2, u7⟩ : ∃ (x2 : Rv), f 45 = x2.v := hU.get 7 (by decide)
      obtain ⟨b9, u9, v9_0, v9_1⟩ : ∃ (b9 : Nat), f 9 = .pointer (some ⟨b9, 0, none⟩) ∧ v6.heap.size ≤ b9 ∧ Blk w7 b9 25 DV.zero.cs := hU.get 9 (by decide)
      obtain ⟨b10, u10, v10_0, v10_1⟩ : ∃ (b10 : Nat), f 10 = .pointer (some ⟨b10, 0, none⟩) ∧ v6.heap.size ≤ b10 ∧ Blk w7 b10 48 Rv.zero.cs := hU.get 10 (by decide)
      simp only [List.drop_succ_cons, List.drop_zero, putAll, List.foldl_cons, List.foldl_nil]
      go_frame
      simp only [u6, u7, u9, u10]
      clear u6 u7 u9 u10
      clear hU
      have P0 := P0.keep hb7
      have A1 := A1.keep hb7
      have A2 := A2.keep hb7
      have B7 := B.trans (hb7.mono B.size)
      clear B hb7
      have hne : ¬ b9 = b10 := Blk.ne v9_1 v10_1 (by decide)
      go_wp2_with (first | ((with_reducible refine is_store 25 ?_); refine wp_storeB b9 _ _ d1.cs v9_1 diskN rfl (dv_one _) rfl rfl ?_; intro w8 k8 r8; go_frame) | ((with_reducible refine is_store 48 ?_); refine wp_storeB b10 _ _ x2.cs (v10_1.grown r8 (by simpa using hne)) refN rfl (rv_one _) rfl rfl ?_; intro w9 k9 r9; go_frame))
      refine noPanic_ok ?_
      obtain ⟨q1, q2, q3⟩ := LL.out
      have n9 : ¬ b9 = G ∧ ¬ b9 = H1 ∧ ¬ b9 = H2 := ⟨by omega, by omega, by omega⟩
      have n10 : ¬ b10 = G ∧ ¬ b10 = H1 ∧ ¬ b10 = H2 := ⟨by omega, by omega, by omega⟩
      have kx := v10_1.grown r8 (by simpa using hne)
      replace P0 : Bx w9 G d0 D0 := ⟨(P0.k.grown r8 (by simpa using n9.1)).grown r9 (by simpa using n10.1), (P0.d.kept (Kept.grown r8 v9_1 notDk)).kept (Kept.grown r9 kx notDkR)⟩
      replace A1 := (A1.grown r8 (by simpa using n9.2.1)).grown r9 (by simpa using n10.2.1)
      replace A2 := (A2.grown r8 (by simpa using n9.2.2)).grown r9 (by simpa using n10.2.2)
      have X1 : Bx w9 b9 d1 E1 := ⟨k8.grown r9 (by simpa using fun e => hne e.symm), (v6_0.kept (Kept.grown r8 v9_1 notDk)).kept (Kept.grown r9 kx notDkR)⟩
      have B : Below w.heap.size w w9 := (B7.grown r8 B7.size (fun k hk => by cases hk; omega)).grown r9 (by have := B7.size; have := r8.size; omega) (fun k hk => by cases hk; omega)
      have n9' := hid n9
      have hG9 : w.heap.size ≤ b9 := by omega
      clear n9 n10 hne kx k8 k9 r8 r9 v9_0 v9_1 v10_0 v10_1 v6_0 B7 LL q1 q2 q3
      go_wp2_with fail
      refine wp_region_headF 118 9 [48, 49, 50, 51, 52, 47, 53, 54, 55] [7, 8] ((fun kq => ([fun u w' => u = d1.v, fun u w' => u = .int .i64 q, fun u w' => ∃ (x : Rv), u = x.v ∧ RefV (fun _ => True) w' x (Dk.new q), fun u w' => u = (⟨0, r, a2, b2, c2⟩ : Ac).v, fun u w' => ∃ (d2 : DV), ∃ (x1 : Rv), u = .tuple #[d2.v, x1.v, .bool true] ∧ DkV w' d2 F1, fun u w' => ∃ (d2 : DV), ∃ (x1 : Rv), u = .tuple #[d2.v, x1.v, .bool true] ∧ DkV w' d2 F1, fun u w' => ∃ (d2 : DV), ∃ (x1 : Rv), u = d2.v ∧ DkV w' d2 F1, fun u w' => ∃ (d2 : DV), ∃ (x1 : Rv), u = x1.v ∧ DkV w' d2 F1, fun u w' => u = .bool true] : List (Value → World → Prop)).getD kq (fun _ _ => True))) (by kernel_rfl) rfl (by kernel_rfl) ?grow ?step ?tail
      case step =>
        simp only [List.take_succ_cons, List.take_zero]
        refine HSteps.cons ?_ ?_
        · intro f w' hb hU
          obtain ⟨x0', x1', x2', x3', x4'⟩ := (X1.k.keep hb).c5
          simp only [putAll, List.foldl_cons, List.foldl_nil]
          go_frame
          go_wp2_with fail
          exact ⟨rfl, _, rfl, Below.refl _ _, rfl⟩
        refine HSteps.cons ?_ ?_
        · intro f w' hb hU
          simp only [putAll, List.foldl_cons, List.foldl_nil]
          go_frame
          go_wp2_with fail
          exact ⟨rfl, _, rfl, Below.refl _ _, rfl⟩
        refine HSteps.cons ?_ ?_
        · intro f w' hb hU
          obtain u1 : f 49 = .int .i64 q := hU.get ⟨1, .data⟩ (by simp) rfl
          simp only [putAll, List.foldl_cons, List.foldl_nil]
          go_frame
          try simp only [u1]
          go_wp2_with fail
          refine (refNew_any q w' (by omega) (fun _ => True) (fun _ _ => trivial)).mono ?_
          rintro e w3 ⟨x, rfl, hx, b3⟩
          go_wp2_with fail
          exact ⟨rfl, _, rfl, b3, x, rfl, hx⟩
        refine HSteps.cons ?_ ?_
        · intro f w' hb hU
          obtain ⟨x0', x1', x2', x3', x4'⟩ := (A2.keep hb).c5
          simp only [putAll, List.foldl_cons, List.foldl_nil]
          go_frame
          go_wp2_with fail
          exact ⟨rfl, _, rfl, Below.refl _ _, rfl⟩
        refine HSteps.cons ?_ ?_
        · intro f w' hb hU
          obtain u0 : f 48 = d1.v := hU.get ⟨0, .data⟩ (by simp) rfl
          obtain ⟨x, u2, v2_0⟩ : ∃ (x : Rv), f 50 = x.v ∧ RefV (fun _ => True) w' x (Dk.new q) := hU.get ⟨2, .data⟩ (by simp) rfl
          obtain u3 : f 51 = (⟨0, r, a2, b2, c2⟩ : Ac).v := hU.get ⟨3, .data⟩ (by simp) rfl
          have R2 := do_any (fun _ => True) d1 x ⟨0, r, a2, b2, c2⟩ E1 (Dk.new q) w' (fun _ _ => trivial) (X1.d.keep hb) v2_0 (HE1.out.1.symm) ok2 (by have := HE1.out.2; omega) (by simp [Dk.new])
          rw [HE1_F1.out] at R2
          simp only [putAll, List.foldl_cons, List.foldl_nil]
          go_frame
          try simp only [u0, u2, u3]
          go_wp2_with fail
          refine (R2).mono ?_
          rintro e w3 ⟨d1, x1, rfl, hd1, hx1, b3⟩
          go_wp2_with fail
          exact ⟨rfl, _, rfl, b3, d1, x1, rfl, hd1⟩
        refine HSteps.cons ?_ ?_
        · intro f w' hb hU
          obtain ⟨d2, x1, u4, v4_0⟩ : ∃ (d2 : DV), ∃ (x1 : Rv), f 52 = .tuple #[d2.v, x1.v, .bool true] ∧ DkV w' d2 F1 := hU.get ⟨4, .data⟩ (by simp) rfl
          simp only [putAll, List.foldl_cons, List.foldl_nil]
          go_frame
          try simp only [u4]
          go_wp2_with fail
          exact ⟨rfl, _, rfl, Below.refl _ _, d2, x1, rfl, v4_0⟩
        refine HSteps.cons ?_ ?_
        · intro f w' hb hU
          obtain ⟨d2, x1, u5, v5_0⟩ : ∃ (d2 : DV), ∃ (x1 : Rv), f 47 = .tuple #[d2.v, x1.v, .bool true] ∧ DkV w' d2 F1 := hU.get ⟨5, .data⟩ (by simp) rfl
          simp only [putAll, List.foldl_cons, List.foldl_nil]
          go_frame
          try simp only [u5]
          go_wp2_with fail
          exact ⟨rfl, _, rfl, Below.refl _ _, d2, x1, rfl, v5_0⟩
        refine HSteps.cons ?_ ?_
        · intro f w' hb hU
          obtain ⟨d2, x1, u5, v5_0⟩ : ∃ (d2 : DV), ∃ (x1 : Rv), f 47 = .tuple #[d2.v, x1.v, .bool true] ∧ DkV w' d2 F1 := hU.get ⟨5, .data⟩ (by simp) rfl
          simp only [putAll, List.foldl_cons, List.foldl_nil]
          go_frame
          try simp only [u5]
          go_wp2_with fail
          exact ⟨rfl, _, rfl, Below.refl _ _, d2, x1, rfl, v5_0⟩
        refine HSteps.cons ?_ ?_
        · intro f w' hb hU
          obtain ⟨d2, x1, u5, v5_0⟩ : ∃ (d2 : DV), ∃ (x1 : Rv), f 47 = .tuple #[d2.v, x1.v, .bool true] ∧ DkV w' d2 F1 := hU.get ⟨5, .data⟩ (by simp) rfl
          simp only [putAll, List.foldl_cons, List.foldl_nil]
          go_frame
          try simp only [u5]
          go_wp2_with fail
          exact ⟨rfl, _, rfl, Below.refl _ _, rfl⟩
        exact HSteps.nil
      case grow =>
        intro kq u wa wb hb hu
        rcases kq with _ | _ | _ | _ | _ | _ | _ | _ | _ | kq
        · exact hu
        · exact hu
        · obtain ⟨x, ue, uf0⟩ := hu
          exact ⟨x, ue, uf0.keep hb⟩
        · exact hu
        · obtain ⟨d2, x1, ue, uf0⟩ := hu
          exact ⟨d2, x1, ue, uf0.keep hb⟩
        · obtain ⟨d2, x1, ue, uf0⟩ := hu
          exact ⟨d2, x1, ue, uf0.keep hb⟩
        · obtain ⟨d2, x1, ue, uf0⟩ := hu
          exact ⟨d2, x1, ue, uf0.keep hb⟩
        · obtain ⟨d2, x1, ue, uf0⟩ := hu
          exact ⟨d2, x1, ue, uf0.keep hb⟩
        · exact hu
        · trivial
      case tail =>
        intro f w7 hb7 hU
        obtain ⟨d2, x1, u6, v6_0⟩ : ∃ (d2 : DV), ∃ (x1 : Rv), f 53 = d2.v ∧ DkV w7 d2 F1 := hU.get 6 (by decide)
        simp only [List.drop_succ_cons, List.drop_zero, putAll, List.foldl_cons, List.foldl_nil]
        go_frame
        simp only [u6]
        clear u6
        clear hU
        have P0 := P0.keep hb7
        have X1 := X1.keep hb7
        have A1 := A1.keep hb7
        have A2 := A2.keep hb7
        have B7 := B.trans (hb7.mono B.size)
        clear B hb7
        go_wp2_with ((with_reducible refine is_store 25 ?_); refine wp_storeB b9 _ _ d2.cs X1.k diskN rfl (dv_one _) rfl rfl ?_; intro w8 k8 r8; go_frame)
        refine noPanic_ok ?_
        have nb := n9'.out
        replace P0 : Bx w8 G d0 D0 := ⟨P0.k.grown r8 (by simpa using nb.1), P0.d.kept (Kept.grown r8 X1.k notDk)⟩
        replace A1 := A1.grown r8 (by simpa using nb.2.1)
        replace A2 := A2.grown r8 (by simpa using nb.2.2)
        replace X1 : Bx w8 b9 d2 F1 := ⟨k8, v6_0.kept (Kept.grown r8 X1.k notDk)⟩
        have B := B7.grown r8 B7.size (fun k hk => by cases hk; exact hG9)
        have LL := hid (And.intro P0.k.lt (And.intro A1.lt (And.intro A2.lt X1.k.lt)))
        clear nb k8 r8 v6_0 B7
        go_wp2_with fail
        refine wp_region_headF 118 11 [57, 58, 59, 60, 61, 56, 62, 63, 64, 12, 13] [7, 8] ((fun kq => ([fun u w' => u = d0.v, fun u w' => u = .int .i64 q, fun u w' => ∃ (x : Rv), u = x.v ∧ RefV (fun _ => True) w' x (Dk.new q), fun u w' => u = (⟨0, r, a2, b2, c2⟩ : Ac).v, fun u w' => ∃ (e1 : DV), ∃ (x1 : Rv), u = .tuple #[e1.v, x1.v, .bool true] ∧ DkV w' e1 E2, fun u w' => ∃ (e1 : DV), ∃ (x1 : Rv), u = .tuple #[e1.v, x1.v, .bool true] ∧ DkV w' e1 E2, fun u w' => ∃ (e1 : DV), ∃ (x1 : Rv), u = e1.v ∧ DkV w' e1 E2, fun u w' => ∃ (x2 : Rv), u = x2.v, fun u w' => u = .bool true, fun u w' => ∃ (b12 : Nat), u = .pointer (some ⟨b12, 0, none⟩) ∧ w8.heap.size ≤ b12 ∧ Blk w' b12 25 DV.zero.cs, fun u w' => ∃ (b13 : Nat), u = .pointer (some ⟨b13, 0, none⟩) ∧ w8.heap.size ≤ b13 ∧ Blk w' b13 48 Rv.zero.cs] : List (Value → World → Prop)).getD kq (fun _ _ => True))) (by kernel_rfl) rfl (by kernel_rfl) ?grow ?step ?tail
        case step =>
          simp only [List.take_succ_cons, List.take_zero]
          refine HSteps.cons ?_ ?_
          · intro f w' hb hU
            obtain ⟨x0', x1', x2', x3', x4'⟩ := (P0.k.keep hb).c5
            simp only [putAll, List.foldl_cons, List.foldl_nil]
            go_frame
            go_wp2_with fail
            exact ⟨rfl, _, rfl, Below.refl _ _, rfl⟩
          refine HSteps.cons ?_ ?_
          · intro f w' hb hU
            simp only [putAll, List.foldl_cons, List.foldl_nil]
            go_frame
            go_wp2_with fail
            exact ⟨rfl, _, rfl, Below.refl _ _, rfl⟩
          refine HSteps.cons ?_ ?_
          · intro f w' hb hU
            obtain u1 : f 58 = .int .i64 q := hU.get ⟨1, .data⟩ (by simp) rfl
            simp only [putAll, List.foldl_cons, List.foldl_nil]
            go_frame
            try simp only [u1]
            go_wp2_with fail
            refine (refNew_any q w' (by omega) (fun _ => True) (fun _ _ => trivial)).mono ?_
            rintro e w3 ⟨x, rfl, hx, b3⟩
            go_wp2_with fail
            exact ⟨rfl, _, rfl, b3, x, rfl, hx⟩
          refine HSteps.cons ?_ ?_
          · intro f w' hb hU
            obtain ⟨x0', x1', x2', x3', x4'⟩ := (A2.keep hb).c5
            simp only [putAll, List.foldl_cons, List.foldl_nil]
            go_frame
            go_wp2_with fail
            exact ⟨rfl, _, rfl, Below.refl _ _, rfl⟩
          refine HSteps.cons ?_ ?_
          · intro f w' hb hU
            obtain u0 : f 57 = d0.v := hU.get ⟨0, .data⟩ (by simp) rfl
            obtain ⟨x, u2, v2_0⟩ : ∃ (x : Rv), f 59 = x.v ∧ RefV (fun _ => True) w' x (Dk.new q) := hU.get ⟨2, .data⟩ (by simp) rfl
            obtain u3 : f 60 = (⟨0, r, a2, b2, c2⟩ : Ac).v := hU.get ⟨3, .data⟩ (by simp) rfl
            have R2 := do_any (fun _ => True) d0 x ⟨0, r, a2, b2, c2⟩ D0 (Dk.new q) w' (fun _ _ => trivial) (P0.d.keep hb) v2_0 (HD0.out.1.symm) ok2 (by have := HD0.out.2; omega) (by simp [Dk.new])
            rw [HD0_E2.out] at R2
            simp only [putAll, List.foldl_cons, List.foldl_nil]
            go_frame
            try simp only [u0, u2, u3]
            go_wp2_with fail
            refine (R2).mono ?_
            rintro e w3 ⟨d1, x1, rfl, hd1, hx1, b3⟩
            go_wp2_with fail
            exact ⟨rfl, _, rfl, b3, d1, x1, rfl, hd1⟩
          refine HSteps.cons ?_ ?_
          · intro f w' hb hU
            obtain ⟨e1, x1, u4, v4_0⟩ : ∃ (e1 : DV), ∃ (x1 : Rv), f 61 = .tuple #[e1.v, x1.v, .bool true] ∧ DkV w' e1 E2 := hU.get ⟨4, .data⟩ (by simp) rfl
            simp only [putAll, List.foldl_cons, List.foldl_nil]
            go_frame
            try simp only [u4]
            go_wp2_with fail
            exact ⟨rfl, _, rfl, Below.refl _ _, e1, x1, rfl, v4_0⟩
          refine HSteps.cons ?_ ?_
          · intro f w' hb hU
            obtain ⟨e1, x1, u5, v5_0⟩ : ∃ (e1 : DV), ∃ (x1 : Rv), f 56 = .tuple #[e1.v, x1.v, .bool true] ∧ DkV w' e1 E2 := hU.get ⟨5, .data⟩ (by simp) rfl
            simp only [putAll, List.foldl_cons, List.foldl_nil]
            go_frame
            try simp only [u5]
            go_wp2_with fail
            exact ⟨rfl, _, rfl, Below.refl _ _, e1, x1, rfl, v5_0⟩
          refine HSteps.cons ?_ ?_
          · intro f w' hb hU
            obtain ⟨e1, x1, u5, v5_0⟩ : ∃ (e1 : DV), ∃ (x1 : Rv), f 56 = .tuple #[e1.v, x1.v, .bool true] ∧ DkV w' e1 E2 := hU.get ⟨5, .data⟩ (by simp) rfl
            simp only [putAll, List.foldl_cons, List.foldl_nil]
            go_frame
            try simp only [u5]
            go_wp2_with fail
            exact ⟨rfl, _, rfl, Below.refl _ _, x1, rfl⟩
          refine HSteps.cons ?_ ?_
          · intro f w' hb hU
            obtain ⟨e1, x1, u5, v5_0⟩ : ∃ (e1 : DV), ∃ (x1 : Rv), f 56 = .tuple #[e1.v, x1.v, .bool true] ∧ DkV w' e1 E2 := hU.get ⟨5, .data⟩ (by simp) rfl
            simp only [putAll, List.foldl_cons, List.foldl_nil]
            go_frame
            try simp only [u5]
            go_wp2_with fail
            exact ⟨rfl, _, rfl, Below.refl _ _, rfl⟩
          refine HSteps.cons ?_ ?_
          · intro f w' hb hU
            have hP : Blk _ w'.heap.size 25 DV.zero.cs := Blk.new w' _ _
            have hb3 : Below w'.heap.size w' _ := (Below.refl _ _).alloc (Nat.le_refl _) (.cells (DV.zero.cs).toArray 25)
            simp only [putAll, List.foldl_cons, List.foldl_nil]
            go_frame
            go_wp2_with fail
            exact ⟨rfl, _, rfl, hb3, _, rfl, hb.size, hP⟩
          refine HSteps.cons ?_ ?_
          · intro f w' hb hU
            have hP : Blk _ w'.heap.size 48 Rv.zero.cs := Blk.new w' _ _
            have hb3 : Below w'.heap.size w' _ := (Below.refl _ _).alloc (Nat.le_refl _) (.cells (Rv.zero.cs).toArray 48)
            simp only [putAll, List.foldl_cons, List.foldl_nil]
            go_frame
            go_wp2_with fail
            exact ⟨rfl, _, rfl, hb3, _, rfl, hb.size, hP⟩
          exact HSteps.nil
        case grow =>
          intro kq u wa wb hb hu
          rcases kq with _ | _ | _ | _ | _ | _ | _ | _ | _ | _ | _ | kq
          · exact hu
          · exact hu
          · obtain ⟨x, ue, uf0⟩ := hu
            exact ⟨x, ue, uf0.keep hb⟩
          · exact hu
          · obtain ⟨e1, x1, ue, uf0⟩ := hu
            exact ⟨e1, x1, ue, uf0.keep hb⟩
          · obtain ⟨e1, x1, ue, uf0⟩ := hu
            exact ⟨e1, x1, ue, uf0.keep hb⟩
          · obtain ⟨e1, x1, ue, uf0⟩ := hu
            exact ⟨e1, x1, ue, uf0.keep hb⟩
          · exact hu
          · exact hu
          · obtain ⟨b12, ue, uf0, uf1⟩ := hu
            exact ⟨b12, ue, uf0, uf1.keep hb⟩
          · obtain ⟨b13, ue, uf0, uf1⟩ := hu
            exact ⟨b13, ue, uf0, uf1.keep hb⟩
          · trivial
        case tail =>
          intro f w7 hb7 hU
          obtain ⟨e1, x1, u6, v6_0⟩ : ∃ (e1 : DV), ∃ (x1 : Rv), f 62 = e1.v ∧ DkV w7 e1 E2 := hU.get 6 (by decide)
          obtain ⟨x2, u7⟩ : ∃ (x2 : Rv), f 63 = x2.v := hU.get 7 (by decide)
          obtain ⟨b12, u9, v9_0, v9_1⟩ : ∃ (b12 : Nat), f 12 = .pointer (some ⟨b12, 0, none⟩) ∧ w8.heap.size ≤ b12 ∧ Blk w7 b12 25 DV.zero.cs := hU.get 9 (by decide)
          obtain ⟨b13, u10, v10_0, v10_1⟩ : ∃ (b13 : Nat), f 13 = .pointer (some ⟨b13, 0, none⟩) ∧ w8.heap.size ≤ b13 ∧ Blk w7 b13 48 Rv.zero.cs := hU.get 10 (by decide)
          simp only [List.drop_succ_cons, List.drop_zero, putAll, List.foldl_cons, List.foldl_nil]
          go_frame
          simp only [u6, u7, u9, u10]
          clear u6 u7 u9 u10
          clear hU
          have P0 := P0.keep hb7
          have X1 := X1.keep hb7
          have A1 := A1.keep hb7
          have A2 := A2.keep hb7
          have B7 := B.trans (hb7.mono B.size)
          clear B hb7
          have hne : ¬ b12 = b13 := Blk.ne v9_1 v10_1 (by decide)
          go_wp2_with (first | ((with_reducible refine is_store 25 ?_); refine wp_storeB b12 _ _ e1.cs v9_1 diskN rfl (dv_one _) rfl rfl ?_; intro w8 k8 r8; go_frame) | ((with_reducible refine is_store 48 ?_); refine wp_storeB b13 _ _ x2.cs (v10_1.grown r8 (by simpa using hne)) refN rfl (rv_one _) rfl rfl ?_; intro w9 k9 r9; go_frame))
          refine noPanic_ok ?_
          obtain ⟨q1, q2, q3, q4⟩ := LL.out
          have n12 : ¬ b12 = H1 ∧ ¬ b12 = b9 := ⟨by omega, by omega⟩
          have n13 : ¬ b13 = H1 ∧ ¬ b13 = b9 := ⟨by omega, by omega⟩
          have kx := v10_1.grown r8 (by simpa using hne)
          replace A1 := (A1.grown r8 (by simpa using n12.1)).grown r9 (by simpa using n13.1)
          replace X1 : Bx w9 b9 d2 F1 := ⟨(X1.k.grown r8 (by simpa using n12.2)).grown r9 (by simpa using n13.2), (X1.d.kept (Kept.grown r8 v9_1 notDk)).kept (Kept.grown r9 kx notDkR)⟩
          have Y1 : Bx w9 b12 e1 E2 := ⟨k8.grown r9 (by simpa using fun e => hne e.symm), (v6_0.kept (Kept.grown r8 v9_1 notDk)).kept (Kept.grown r9 kx notDkR)⟩
          have B : Below w.heap.size w w9 := (B7.grown r8 B7.size (fun k hk => by cases hk; omega)).grown r9 (by have := B7.size; have := r8.size; omega) (fun k hk => by cases hk; omega)
          have m12 := hid n12
          have hG12 : w.heap.size ≤ b12 := by omega
          clear n12 n13 hne kx k8 k9 r8 r9 v9_0 v9_1 v10_0 v10_1 v6_0 B7 LL q1 q2 q3 q4 P0 A2 n9'
          go_wp2_with fail
          refine wp_region_headF 118 9 [66, 67, 68, 69, 70, 65, 71, 72, 73] [7, 8] ((fun kq => ([fun u w' => u = e1.v, fun u w' => u = .int .i64 q, fun u w' => ∃ (x : Rv), u = x.v ∧ RefV (fun _ => True) w' x (Dk.new q), fun u w' => u = (⟨0, p, a1, b1, c1⟩ : Ac).v, fun u w' => ∃ (e2 : DV), ∃ (x1 : Rv), u = .tuple #[e2.v, x1.v, .bool true] ∧ DkV w' e2 F2, fun u w' => ∃ (e2 : DV), ∃ (x1 : Rv), u = .tuple #[e2.v, x1.v, .bool true] ∧ DkV w' e2 F2, fun u w' => ∃ (e2 : DV), ∃ (x1 : Rv), u = e2.v ∧ DkV w' e2 F2, fun u w' => ∃ (e2 : DV), ∃ (x1 : Rv), u = x1.v ∧ DkV w' e2 F2, fun u w' => u = .bool true] : List (Value → World → Prop)).getD kq (fun _ _ => True))) (by kernel_rfl) rfl (by kernel_rfl) ?grow ?step ?tail
          case step =>
            simp only [List.take_succ_cons, List.take_zero]
            refine HSteps.cons ?_ ?_
            · intro f w' hb hU
              obtain ⟨x0', x1', x2', x3', x4'⟩ := (Y1.k.keep hb).c5
              simp only [putAll, List.foldl_cons, List.foldl_nil]
              go_frame
              go_wp2_with fail
              exact ⟨rfl, _, rfl, Below.refl _ _, rfl⟩
            refine HSteps.cons ?_ ?_
            · intro f w' hb hU
              simp only [putAll, List.foldl_cons, List.foldl_nil]
              go_frame
              go_wp2_with fail
              exact ⟨rfl, _, rfl, Below.refl _ _, rfl⟩
            refine HSteps.cons ?_ ?_
            · intro f w' hb hU
              obtain u1 : f 67 = .int .i64 q := hU.get ⟨1, .data⟩ (by simp) rfl
              simp only [putAll, List.foldl_cons, List.foldl_nil]
              go_frame
              try simp only [u1]
              go_wp2_with fail
              refine (refNew_any q w' (by omega) (fun _ => True) (fun _ _ => trivial)).mono ?_
              rintro e w3 ⟨x, rfl, hx, b3⟩
              go_wp2_with fail
              exact ⟨rfl, _, rfl, b3, x, rfl, hx⟩
            refine HSteps.cons ?_ ?_
            · intro f w' hb hU
              obtain ⟨x0', x1', x2', x3', x4'⟩ := (A1.keep hb).c5
              simp only [putAll, List.foldl_cons, List.foldl_nil]
              go_frame
              go_wp2_with fail
              exact ⟨rfl, _, rfl, Below.refl _ _, rfl⟩
            refine HSteps.cons ?_ ?_
            · intro f w' hb hU
              obtain u0 : f 66 = e1.v := hU.get ⟨0, .data⟩ (by simp) rfl
              obtain ⟨x, u2, v2_0⟩ : ∃ (x : Rv), f 68 = x.v ∧ RefV (fun _ => True) w' x (Dk.new q) := hU.get ⟨2, .data⟩ (by simp) rfl
              obtain u3 : f 69 = (⟨0, p, a1, b1, c1⟩ : Ac).v := hU.get ⟨3, .data⟩ (by simp) rfl
              have R2 := do_any (fun _ => True) e1 x ⟨0, p, a1, b1, c1⟩ E2 (Dk.new q) w' (fun _ _ => trivial) (Y1.d.keep hb) v2_0 (HE2.out.1.symm) ok1 (by have := HE2.out.2; omega) (by simp [Dk.new])
              rw [HE2_F2.out] at R2
              simp only [putAll, List.foldl_cons, List.foldl_nil]
              go_frame
              try simp only [u0, u2, u3]
              go_wp2_with fail
              refine (R2).mono ?_
              rintro e w3 ⟨d1, x1, rfl, hd1, hx1, b3⟩
              go_wp2_with fail
              exact ⟨rfl, _, rfl, b3, d1, x1, rfl, hd1⟩
            refine HSteps.cons ?_ ?_
            · intro f w' hb hU
              obtain ⟨e2, x1, u4, v4_0⟩ : ∃ (e2 : DV), ∃ (x1 : Rv), f 70 = .tuple #[e2.v, x1.v, .bool true] ∧ DkV w' e2 F2 := hU.get ⟨4, .data⟩ (by simp) rfl
              simp only [putAll, List.foldl_cons, List.foldl_nil]
              go_frame
              try simp only [u4]
              go_wp2_with fail
              exact ⟨rfl, _, rfl, Below.refl _ _, e2, x1, rfl, v4_0⟩
            refine HSteps.cons ?_ ?_
            · intro f w' hb hU
              obtain ⟨e2, x1, u5, v5_0⟩ : ∃ (e2 : DV), ∃ (x1 : Rv), f 65 = .tuple #[e2.v, x1.v, .bool true] ∧ DkV w' e2 F2 := hU.get ⟨5, .data⟩ (by simp) rfl
              simp only [putAll, List.foldl_cons, List.foldl_nil]
              go_frame
              try simp only [u5]
              go_wp2_with fail
              exact ⟨rfl, _, rfl, Below.refl _ _, e2, x1, rfl, v5_0⟩
            refine HSteps.cons ?_ ?_
            · intro f w' hb hU
              obtain ⟨e2, x1, u5, v5_0⟩ : ∃ (e2 : DV), ∃ (x1 : Rv), f 65 = .tuple #[e2.v, x1.v, .bool true] ∧ DkV w' e2 F2 := hU.get ⟨5, .data⟩ (by simp) rfl
              simp only [putAll, List.foldl_cons, List.foldl_nil]
              go_frame
              try simp only [u5]
              go_wp2_with fail
              exact ⟨rfl, _, rfl, Below.refl _ _, e2, x1, rfl, v5_0⟩
            refine HSteps.cons ?_ ?_
            · intro f w' hb hU
              obtain ⟨e2, x1, u5, v5_0⟩ : ∃ (e2 : DV), ∃ (x1 : Rv), f 65 = .tuple #[e2.v, x1.v, .bool true] ∧ DkV w' e2 F2 := hU.get ⟨5, .data⟩ (by simp) rfl
              simp only [putAll, List.foldl_cons, List.foldl_nil]
              go_frame
              try simp only [u5]
              go_wp2_with fail
              exact ⟨rfl, _, rfl, Below.refl _ _, rfl⟩
            exact HSteps.nil
          case grow =>
            intro kq u wa wb hb hu
            rcases kq with _ | _ | _ | _ | _ | _ | _ | _ | _ | kq
            · exact hu
            · exact hu
            · obtain ⟨x, ue, uf0⟩ := hu
              exact ⟨x, ue, uf0.keep hb⟩
            · exact hu
            · obtain ⟨e2, x1, ue, uf0⟩ := hu
              exact ⟨e2, x1, ue, uf0.keep hb⟩
            · obtain ⟨e2, x1, ue, uf0⟩ := hu
              exact ⟨e2, x1, ue, uf0.keep hb⟩
            · obtain ⟨e2, x1, ue, uf0⟩ := hu
              exact ⟨e2, x1, ue, uf0.keep hb⟩
            · obtain ⟨e2, x1, ue, uf0⟩ := hu
              exact ⟨e2, x1, ue, uf0.keep hb⟩
            · exact hu
            · trivial
          case tail =>
            intro f w7 hb7 hU
            obtain ⟨e2, x1, u6, v6_0⟩ : ∃ (e2 : DV), ∃ (x1 : Rv), f 71 = e2.v ∧ DkV w7 e2 F2 := hU.get 6 (by decide)
            simp only [List.drop_succ_cons, List.drop_zero, putAll, List.foldl_cons, List.foldl_nil]
            go_frame
            simp only [u6]
            clear u6
            clear hU
            have X1 := X1.keep hb7
            have Y1 := Y1.keep hb7
            have B7 := B.trans (hb7.mono B.size)
            clear B hb7
            go_wp2_with ((with_reducible refine is_store 25 ?_); refine wp_storeB b12 _ _ e2.cs Y1.k diskN rfl (dv_one _) rfl rfl ?_; intro w8 k8 r8; go_frame)
            refine noPanic_ok ?_
            have nb := m12.out
            replace X1 : Bx w8 b9 d2 F1 := ⟨X1.k.grown r8 (by simpa using nb.2), X1.d.kept (Kept.grown r8 Y1.k notDk)⟩
            replace Y1 : Bx w8 b12 e2 F2 := ⟨k8, v6_0.kept (Kept.grown r8 Y1.k notDk)⟩
            have B := B7.grown r8 B7.size (fun k hk => by cases hk; exact hG12)
            clear nb k8 r8 v6_0 B7 m12 hb12 hG hG9 hG12
            go_wp2_with fail
            go_loopw [75] (fun i wr => ∃ k : Nat, k ≤ q ∧ i = .int .i64 k ∧ Bx wr b9 d2 F1 ∧ Bx wr b12 e2 F2 ∧ Below w.heap.size w wr) (fun i _ => q - (intOf i).toNat)
            case atStart => exact ⟨0, Nat.zero_le _, rfl, X1, Y1, B⟩
            case round =>
              obtain ⟨k, hk, rfl, Xr, Yr, hbel⟩ := hrel
              clear X1 Y1 B
              by_cases hlt : k < q
              · have l1 := Xr.k.lt
                have l2 := Yr.k.lt
                obtain ⟨x0, x1, x2, x3, x4⟩ := Xr.k.c5
                have R := read_good d2 F1 k wr Xr.d (by rw [HF1.out.1]; exact hlt)
                unfold DV.v at R
                go_wp2_with fail
                refine R.mono ?_
                clear R
                rintro e w10 ⟨g, rfl, hown, bb⟩
                have r1 : RL w10 1 (some ⟨g, 0, none⟩) 128 ((F1.cur k).map byV) := RL.of_own hown
                replace Xr := Xr.keep bb
                replace Yr := Yr.keep bb
                replace hbel := hbel.trans (bb.mono hbel.size)
                clear hown bb l1 l2 x0 x1 x2 x3 x4
                have l1 := Xr.k.lt
                have l2 := Yr.k.lt
                obtain ⟨x0, x1, x2, x3, x4⟩ := Yr.k.c5
                have R := read_good e2 F2 k w10 Yr.d (by rw [HF1.out.2]; exact hlt)
                unfold DV.v at R
                go_wp2_with fail
                refine R.mono ?_
                clear R
                rintro e w11 ⟨h, rfl, hown, bb⟩
                have r2 : RL w11 1 (some ⟨h, 0, none⟩) 128 ((F2.cur k).map byV) := RL.of_own hown
                replace r1 := r1.below bb
                replace Xr := Xr.keep bb
                replace Yr := Yr.keep bb
                replace hbel := hbel.trans (bb.mono hbel.size)
                clear hown bb l1 l2 x0 x1 x2 x3 x4
                rw [← HC.out k] at r2
                have R := equal_any _ _ _ 128 _ 128 _ _ w11 r1 r2
                rw [beq_self_eq_true] at R
                have HR := hid R
                clear R r1 r2
                go_wp2_with fail
                refine HR.out.mono ?_
                rintro e w' ⟨rfl, rfl⟩
                go_wp2_with fail
                go_roundw
                case rel => exact ⟨k + 1, by omega, by go_num, Xr, Yr, hbel⟩
                case measure => simp [intOf]; omega
              · obtain rfl : k = q := by omega
                go_wp2_with fail
                refine wp_region_head 118 15 [103, 104, 105, 106, 107, 108, 109, 110, 111, 112, 113, 114, 115, 116, 117] [] ((fun kq => ([fun u w' => u = .bool true, fun u w' => u = .bool true, fun u w' => u = d2.v, fun u w' => u = .int .i64 d2.m, fun u w' => u = e2.v, fun u w' => u = .int .i64 e2.m, fun u w' => u = .bool true, fun u w' => u = .bool true, fun u w' => u = .bool true, fun u w' => u = d2.v, fun u w' => u = d2.sync.v, fun u w' => u = e2.v, fun u w' => u = e2.sync.v, fun u w' => u = .bool true, fun u w' => u = .bool true] : List (Value → World → Prop)).getD kq (fun _ _ => True))) (by kernel_rfl) rfl (by kernel_rfl) (.inl rfl) ?grow ?step ?tail
                case step =>
                  simp only [List.take_succ_cons, List.take_zero]
                  refine HSteps.cons ?_ ?_
                  · intro f w' hb hU
                    simp only [putAll, List.foldl_cons, List.foldl_nil]
                    go_frame
                    go_wp2_with fail
                    refine (awake_any _).mono ?_
                    rintro e w3 ⟨rfl, b3⟩
                    go_wp2_with fail
                    exact ⟨rfl, _, rfl, b3, rfl⟩
                  refine HSteps.cons ?_ ?_
                  · intro f w' hb hU
                    obtain u0 : f 103 = .bool true := hU.get ⟨0, .data⟩ (by simp) rfl
                    simp only [putAll, List.foldl_cons, List.foldl_nil]
                    go_frame
                    try simp only [u0]
                    go_wp2_with fail
                    exact ⟨rfl, _, rfl, Below.refl _ _, rfl⟩
                  refine HSteps.cons ?_ ?_
                  · intro f w' hb hU
                    obtain u1 : f 104 = .bool true := hU.get ⟨1, .guard⟩ (by simp) rfl
                    have x0' := ((Xr.k.keep hb).c5).1
                    have x1' := ((Xr.k.keep hb).c5).2.1
                    have x2' := ((Xr.k.keep hb).c5).2.2.1
                    have x3' := ((Xr.k.keep hb).c5).2.2.2.1
                    have x4' := ((Xr.k.keep hb).c5).2.2.2.2
                    simp only [putAll, List.foldl_cons, List.foldl_nil]
                    go_frame
                    try simp only [u1]
                    go_wp2_with fail
                    exact ⟨rfl, _, rfl, Below.refl _ _, rfl⟩
                  refine HSteps.cons ?_ ?_
                  · intro f w' hb hU
                    obtain u2 : f 105 = d2.v := hU.get ⟨2, .data⟩ (by simp) rfl
                    obtain u1 : f 104 = .bool true := hU.get ⟨1, .chain⟩ (by simp) rfl
                    simp only [putAll, List.foldl_cons, List.foldl_nil]
                    go_frame
                    try simp only [u2, u1]
                    go_wp2_with fail
                    refine (pending_any d2 _).mono ?_
                    rintro e w3 ⟨rfl, b3⟩
                    go_wp2_with fail
                    exact ⟨rfl, _, rfl, b3, rfl⟩
                  refine HSteps.cons ?_ ?_
                  · intro f w' hb hU
                    obtain u1 : f 104 = .bool true := hU.get ⟨1, .guard⟩ (by simp) rfl
                    have x0' := ((Yr.k.keep hb).c5).1
                    have x1' := ((Yr.k.keep hb).c5).2.1
                    have x2' := ((Yr.k.keep hb).c5).2.2.1
                    have x3' := ((Yr.k.keep hb).c5).2.2.2.1
                    have x4' := ((Yr.k.keep hb).c5).2.2.2.2
                    simp only [putAll, List.foldl_cons, List.foldl_nil]
                    go_frame
                    try simp only [u1]
                    go_wp2_with fail
                    exact ⟨rfl, _, rfl, Below.refl _ _, rfl⟩
                  refine HSteps.cons ?_ ?_
                  · intro f w' hb hU
                    obtain u4 : f 107 = e2.v := hU.get ⟨4, .data⟩ (by simp) rfl
                    obtain u3 : f 106 = .int .i64 d2.m := hU.get ⟨3, .chain⟩ (by simp) rfl
                    obtain u1 : f 104 = .bool true := hU.get ⟨1, .guard⟩ (by simp) rfl
                    simp only [putAll, List.foldl_cons, List.foldl_nil]
                    go_frame
                    try simp only [u4, u3, u1]
                    go_wp2_with fail
                    refine (pending_any e2 _).mono ?_
                    rintro e w3 ⟨rfl, b3⟩
                    go_wp2_with fail
                    exact ⟨rfl, _, rfl, b3, rfl⟩
                  refine HSteps.cons ?_ ?_
                  · intro f w' hb hU
                    obtain u3 : f 106 = .int .i64 d2.m := hU.get ⟨3, .data⟩ (by simp) rfl
                    obtain u5 : f 108 = .int .i64 e2.m := hU.get ⟨5, .data⟩ (by simp) rfl
                    obtain u1 : f 104 = .bool true := hU.get ⟨1, .guard⟩ (by simp) rfl
                    have t1 : ((d2.m : Int) == (e2.m : Int)) = true := by rw [Xr.d.m, Yr.d.m, HL.out]; exact beq_self_eq_true _
                    simp only [putAll, List.foldl_cons, List.foldl_nil]
                    go_frame
                    try simp only [u3, u5, u1]
                    go_wp2_with fail
                    exact ⟨rfl, _, rfl, Below.refl _ _, rfl⟩
                  refine HSteps.cons ?_ ?_
                  · intro f w' hb hU
                    obtain u1 : f 104 = .bool true := hU.get ⟨1, .data⟩ (by simp) rfl
                    obtain u6 : f 109 = .bool true := hU.get ⟨6, .data⟩ (by simp) rfl
                    simp only [putAll, List.foldl_cons, List.foldl_nil]
                    go_frame
                    try simp only [u1, u6]
                    go_wp2_with fail
                    exact ⟨rfl, _, rfl, Below.refl _ _, rfl⟩
                  refine HSteps.cons ?_ ?_
                  · intro f w' hb hU
                    obtain u7 : f 110 = .bool true := hU.get ⟨7, .data⟩ (by simp) rfl
                    obtain u5 : f 108 = .int .i64 e2.m := hU.get ⟨5, .chain⟩ (by simp) rfl
                    simp only [putAll, List.foldl_cons, List.foldl_nil]
                    go_frame
                    try simp only [u7, u5]
                    go_wp2_with fail
                    exact ⟨rfl, _, rfl, Below.refl _ _, rfl⟩
                  refine HSteps.cons ?_ ?_
                  · intro f w' hb hU
                    obtain u8 : f 111 = .bool true := hU.get ⟨8, .guard⟩ (by simp) rfl
                    have x0' := ((Xr.k.keep hb).c5).1
                    have x1' := ((Xr.k.keep hb).c5).2.1
                    have x2' := ((Xr.k.keep hb).c5).2.2.1
                    have x3' := ((Xr.k.keep hb).c5).2.2.2.1
                    have x4' := ((Xr.k.keep hb).c5).2.2.2.2
                    simp only [putAll, List.foldl_cons, List.foldl_nil]
                    go_frame
                    try simp only [u8]
                    go_wp2_with fail
                    exact ⟨rfl, _, rfl, Below.refl _ _, rfl⟩
                  refine HSteps.cons ?_ ?_
                  · intro f w' hb hU
                    obtain u9 : f 112 = d2.v := hU.get ⟨9, .data⟩ (by simp) rfl
                    obtain u8 : f 111 = .bool true := hU.get ⟨8, .chain⟩ (by simp) rfl
                    simp only [putAll, List.foldl_cons, List.foldl_nil]
                    go_frame
                    try simp only [u9, u8]
                    go_wp2_with fail
                    refine (sync_any d2 _).mono ?_
                    rintro e w3 ⟨rfl, b3⟩
                    go_wp2_with fail
                    exact ⟨rfl, _, rfl, b3, rfl⟩
                  refine HSteps.cons ?_ ?_
                  · intro f w' hb hU
                    obtain u8 : f 111 = .bool true := hU.get ⟨8, .guard⟩ (by simp) rfl
                    have x0' := ((Yr.k.keep hb).c5).1
                    have x1' := ((Yr.k.keep hb).c5).2.1
                    have x2' := ((Yr.k.keep hb).c5).2.2.1
                    have x3' := ((Yr.k.keep hb).c5).2.2.2.1
                    have x4' := ((Yr.k.keep hb).c5).2.2.2.2
                    simp only [putAll, List.foldl_cons, List.foldl_nil]
                    go_frame
                    try simp only [u8]
                    go_wp2_with fail
                    exact ⟨rfl, _, rfl, Below.refl _ _, rfl⟩
                  refine HSteps.cons ?_ ?_
                  · intro f w' hb hU
                    obtain u11 : f 114 = e2.v := hU.get ⟨11, .data⟩ (by simp) rfl
                    obtain u10 : f 113 = d2.sync.v := hU.get ⟨10, .chain⟩ (by simp) rfl
                    obtain u8 : f 111 = .bool true := hU.get ⟨8, .guard⟩ (by simp) rfl
                    simp only [putAll, List.foldl_cons, List.foldl_nil]
                    go_frame
                    try simp only [u11, u10, u8]
                    go_wp2_with fail
                    refine (sync_any e2 _).mono ?_
                    rintro e w3 ⟨rfl, b3⟩
                    go_wp2_with fail
                    exact ⟨rfl, _, rfl, b3, rfl⟩
                  refine HSteps.cons ?_ ?_
                  · intro f w' hb hU
                    obtain u10 : f 113 = d2.sync.v := hU.get ⟨10, .data⟩ (by simp) rfl
                    obtain u12 : f 115 = e2.sync.v := hU.get ⟨12, .data⟩ (by simp) rfl
                    obtain u8 : f 111 = .bool true := hU.get ⟨8, .guard⟩ (by simp) rfl
                    have R := dkEqual_any d2.sync e2.sync F1.sync F2.sync w' (Xr.d.keep hb).sync (Yr.d.keep hb).sync true ⟨fun _ => HS.out, fun _ => rfl⟩
                    simp only [putAll, List.foldl_cons, List.foldl_nil]
                    go_frame
                    try simp only [u10, u12, u8]
                    go_wp2_with fail
                    refine (R).mono ?_
                    rintro e w3 ⟨rfl, b3⟩
                    go_wp2_with fail
                    exact ⟨rfl, _, rfl, b3, rfl⟩
                  refine HSteps.cons ?_ ?_
                  · intro f w' hb hU
                    obtain u8 : f 111 = .bool true := hU.get ⟨8, .data⟩ (by simp) rfl
                    obtain u13 : f 116 = .bool true := hU.get ⟨13, .data⟩ (by simp) rfl
                    simp only [putAll, List.foldl_cons, List.foldl_nil]
                    go_frame
                    try simp only [u8, u13]
                    go_wp2_with fail
                    exact ⟨rfl, _, rfl, Below.refl _ _, rfl⟩
                  exact HSteps.nil
                case grow =>
                  intro kq u wa wb hb hu
                  rcases kq with _ | _ | _ | _ | _ | _ | _ | _ | _ | _ | _ | _ | _ | _ | _ | kq
                  · exact hu
                  · exact hu
                  · exact hu
                  · exact hu
                  · exact hu
                  · exact hu
                  · exact hu
                  · exact hu
                  · exact hu
                  · exact hu
                  · exact hu
                  · exact hu
                  · exact hu
                  · exact hu
                  · exact hu
                  · trivial
                case tail =>
                  intro f w7 hb7 hU
                  obtain u14 : f 117 = .bool true := hU.get 14 (by decide)
                  simp only [List.drop_succ_cons, List.drop_zero, putAll, List.foldl_cons, List.foldl_nil]
                  go_frame
                  simp only [u14]
                  clear u14
                  clear hU
                  go_wp2_with fail
                  go_ret
                  exact ⟨rfl, hbel.trans (hb7.mono hbel.size)⟩
end Go.Proofs.Ythpalmncfcahkaa

