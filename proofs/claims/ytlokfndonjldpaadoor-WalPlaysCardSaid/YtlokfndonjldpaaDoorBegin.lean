/- begin of layer 12's laws, walked. Conditions: the table of remainders is laid. -/
import Derived.Test.YtlokfndonjldpaaDoorAct
import Derived.Test.YtlokfndonjldpaaDoorCreate
import Derived.Test.YtlokfndonjldpaaDoorVar
import Derived.Test.YtlokfndonjldpaaDoorOpen
set_option linter.unusedSimpArgs false
set_option linter.unusedVariables false
namespace Go.Proofs.YtlokfndonjldpaaDoor
open Go.RowKit

theorem Blk.ne {w : World} {g h : Nat} {t u : TypeId} {cs ds : List Value} (k1 : Blk w g t cs) (k2 : Blk w h u ds) (ht : t ≠ u) : ¬ g = h := by
  rintro rfl
  unfold Blk at k1 k2
  rw [k1] at k2
  cases k2
  exact ht rfl
set_option maxRecDepth 100000 in
set_option maxHeartbeats 4000000 in
theorem begin_any (n : Nat) (w : World) (hn : n < 256) (hT : Tab w) :
    Calls Tryd.prog 24 #[.int .u8 n] w fun e w' => ∃ d' : DV, e = .returned (.tuple #[d'.v, (Lg.first 2 (2 + n % 20)).v, .int .i64 ((2 + n % 20 : Nat) : Int), .bool true]) ∧ DkV w' d' (created (Dk.new (2 + n % 20 + 3)) 2 (2 + n % 20)) ∧ Below w.heap.size w w' := by
  obtain ⟨m, hm⟩ : ∃ z, n % 20 = z := ⟨_, rfl⟩
  have em : (n : Int).tmod 20 = (m : Int) := by rw [Int.tmod_eq_emod_of_nonneg (by omega)]; omega
  have em2 : (n : Int) % 20 = (m : Int) := by omega
  have hm2 : m < 20 := by omega
  rw [hm]
  clear hm
  obtain ⟨k, hk⟩ : ∃ k, 2 + m = k := ⟨_, rfl⟩
  have ek : 2 + (m : Int) = (k : Int) := by omega
  have hk1 : 2 ≤ k ∧ k < 22 := by omega
  rw [hk]
  clear hk
  have HK := hid ek
  have ek2 := IntWalk.i64_in (2 + (m : Int)) (by omega)
  clear ek
  obtain ⟨q, hq⟩ : ∃ q, k + 3 = q := ⟨_, rfl⟩
  have ek3 : (k : Int) + 3 = (q : Int) := by omega
  have ek4 := IntWalk.i64_in ((k : Int) + 3) (by omega)
  rw [hq]
  have HTb := hid hT
  clear hT
  go_enter Tryd.func24, Tryd.ntmps24
  go_wp2_with fail
  generalize hw3 : World.alloc (World.alloc w _) _ = v3
  obtain ⟨k2, k3, B⟩ := two_boxes_r (cs1 := DV.zero.cs) (cs2 := Lg.zero.cs) hw3
  clear hw3
  rw [HK.out]
  simp only [ek3]
  have R := new_ok q v3 (by omega) (by omega)
  refine R.mono ?_
  clear R
  rintro e w4 ⟨rfl, b4⟩
  replace k2 := k2.keep b4
  replace k3 := k3.keep b4
  replace B := B.trans (b4.mono B.size)
  clear b4
  simp only [DV.v]
  go_wp2_with (first
    | ((with_reducible refine is_alloc 38 ?_); refine wp_allocB (w := w4) _ arrDisk ?_; intro w5 k5 b5 s5; go_frame)
    | ((with_reducible refine is_store 38 ?_); refine wp_storeB w4.heap.size _ _ (⟨q, none, none, none, 0⟩ : DV).cs k5 diskN rfl (dv_one _) rfl rfl ?_; intro w6 k6 r6; go_frame; obtain ⟨x0, x1, x2, x3, x4⟩ := k6.c5; dsimp only at x0 x1 x2 x3 x4; have l7 := k6.lt))
  have hg4 : w.heap.size + 1 < w4.heap.size := k3.lt
  replace k2 := (k2.keep b5).grown r6 (by simp; omega)
  replace k3 := (k3.keep b5).grown r6 (by simp; omega)
  replace B := (B.trans (b5.mono B.size)).grown r6 (by have := B.size; have := b5.size; omega) (fun q hq => by cases hq; exact B.size)
  have hd6 := DkV.new w6 q (by omega)
  clear b5 s5 k5 r6
  generalize w4.heap.size = g7 at *
  clear w4
  have R := create_good ⟨q, none, none, none, 0⟩ (Dk.new q) 2 k w6 hd6 (HTb.out.keep B) hk1.1 (by show 2 + k ≤ q; omega) (by show (0 : Nat) ≤ _; omega)
  simp only [DV.v, Lg.v, Lg.first, show ((2 : Nat) : Int) = 2 from rfl, show ((1 : Nat) : Int) = 1 from rfl, show ((0 : Nat) : Int) = 0 from rfl, show ((2 + 1 : Nat) : Int) = 3 from rfl] at R ⊢
  obtain ⟨D1, hD1⟩ : ∃ z, created (Dk.new q) 2 k = z := ⟨_, rfl⟩
  rw [hD1] at R
  have HD1 := hid hD1
  clear hD1
  refine R.mono ?_
  clear R
  rintro e w8 ⟨d1, rfl, hd8, b8⟩
  replace k2 := k2.keep b8
  replace k3 := k3.keep b8
  replace k6 := k6.keep b8
  replace B := B.trans (b8.mono B.size)
  clear b8 x0 x1 x2 x3 x4 l7 hd6
  have l8 := k6.lt
  simp only [DV.v]
  go_wp2_with (first
    | ((with_reducible refine is_alloc 44 ?_); refine wp_allocB (w := w8) _ arrLog ?_; intro w9 k9 b9 s9; go_frame)
    | ((with_reducible refine is_store 38 ?_); refine wp_storeB g7 _ _ d1.cs (k6.keep b9) diskN rfl (dv_one _) rfl rfl ?_; intro w10 k10 r10; go_frame)
    | ((with_reducible refine is_store 44 ?_); refine wp_storeB w8.heap.size _ _ (Lg.first 2 k).cs (k9.grown r10 (by simp; omega)) logN rfl (lg_one _) rfl rfl ?_; intro w11 k11 r11; go_frame))
  have hd11 := ((hd8.keep b9).kept (Kept.grown r10 (k6.keep b9) notDk)).kept (Kept.grown r11 (k9.grown r10 (by simp; omega)) (by unfold dkT; decide))
  have n2 := ((k2.keep b9).grown r10 (by simp; omega)).grown r11 (by simp; omega)
  have n3 := ((k3.keep b9).grown r10 (by simp; omega)).grown r11 (by simp; omega)
  have n7 := k10.grown r11 (by simp; omega)
  have C1 := (B.trans (b9.mono B.size)).grown r10 (by have := B.size; have := b9.size; omega) (fun z hz => by cases hz; omega)
  have C2 := C1.grown r11 C1.size (fun z hz => by cases hz; exact B.size)
  have hw8 : g7 < w8.heap.size := l8
  clear k2 k3 k6 b9 k9 s9 r10 r11 k10 C1 hd8 l8
  generalize w8.heap.size = g9 at *
  clear B
  have m2 := n2.lt
  have m3 := n3.lt
  have m7 := n7.lt
  have m9 := k11.lt
  have f2 := n2.fz
  obtain ⟨x0, x1, x2, x3, x4⟩ := n7.c5
  obtain ⟨z0, z1, z2, z3, z4, z5⟩ := k11.c6
  dsimp only [Lg.first] at z0 z1 z2 z3 z4 z5
  simp only [show ((2 : Nat) : Int) = 2 from rfl, show ((1 : Nat) : Int) = 1 from rfl, show ((2 + 1 : Nat) : Int) = 3 from rfl] at z0 z2 z3 z4 z5
  obtain ⟨y0, y1, y2, y3, y4⟩ := n2.c5
  obtain ⟨s2, g2⟩ := set5 n2 rfl (.int .i64 d1.n) (.pointer d1.s) (.pointer d1.c) (.pointer d1.l) (.int .i64 d1.m)
  have k11s := k11.grown g2 (by simp; omega)
  have n3s := n3.grown g2 (by simp)
  have f3 := n3s.fz
  obtain ⟨b0, b1, b2, b3, b4, b5⟩ := k11s.c6
  dsimp only [Lg.first] at b0 b1 b2 b3 b4 b5
  simp only [show ((2 : Nat) : Int) = 2 from rfl, show ((1 : Nat) : Int) = 1 from rfl, show ((2 + 1 : Nat) : Int) = 3 from rfl] at b0 b2 b3 b4 b5
  obtain ⟨c0, c1, c2, c3, c4, c5⟩ := n3s.c6
  go_region
  obtain ⟨s7, g7'⟩ := set6 n3s rfl (.int .i64 2) (.int .i64 k) (.int .u64 1) (.int .u64 1) (.int .u64 1) (.int .i64 3)
  have hd12 := hd11.kept (Kept.grown g2 n2 notDk)
  have hd13 := hd12.kept (Kept.grown g7' n3s (by unfold dkT; decide))
  have C10 := C2.grown g2 C2.size (fun q hq => by cases hq; omega)
  have C11 := C10.grown g7' C10.size (fun q hq => by cases hq; omega)
  have s6' := s2.grown g7' (by simp)
  clear x0 x1 x2 x3 x4 z0 z1 z2 z3 z4 z5 y0 y1 y2 y3 y4 b0 b1 b2 b3 b4 b5 c0 c1 c2 c3 c4 c5 f2 f3 s2 n3s hd11 hd12 C2 C10 g2 g7' n2 n3 n7 k11 k11s m2 m3 m7 m9
  generalize World.setCell (World.setCell _ _ _) _ _ = w14 at s7 s6' hd13 C11 ⊢
  obtain ⟨a0, a1, a2, a3, a4⟩ := (show Blk w14.drew _ _ _ from s6').c5
  obtain ⟨e0, e1', e2, e3, e4, e5⟩ := (show Blk w14.drew _ _ _ from s7).c6
  go_wp2_with fail
  refine bodyPost_ret (v := .tuple #[d1.v, .agg #[.int .i64 2, .int .i64 k, .int .u64 1, .int .u64 1, .int .u64 1, .int .i64 3], .int .i64 k, .bool true]) (by simp [results, Tryd.results24, go_sem, a0, a1, a2, a3, a4, e0, e1', e2, e3, e4, e5]; rfl) rfl ?_
  rw [HD1.out]
  exact ⟨d1, rfl, hd13.keep (Below.refl _ _).drew, C11.drew⟩
end Go.Proofs.YtlokfndonjldpaaDoor
