/- The walk of PageApart. Conditions: the table of remainders is laid; the pages' bodies read. -/
import Derived.Test.YtjaoipdmchofoaaDoorPgP
import Derived.Test.YtjaoipdmchofoaaDoorCrashes
import Derived.Test.YtjaoipdmchofoaaDoorEqual
set_option linter.unusedSimpArgs false
set_option linter.unusedVariables false
namespace Go.Proofs.YtjaoipdmchofoaaDoor
open Go.RowKit

theorem u8_lim {x : Int} (h : (Lit.int .u8 x).wf = true) : ∃ n : Nat, x = n ∧ n ≤ 255 := by
  have : 0 ≤ x ∧ x ≤ 255 := by simpa [Lit.wf, IntKind.min, IntKind.max, IntKind.signed, IntKind.bits] using h
  exact ⟨x.toNat, by omega, by omega⟩
theorem same_sync {A B : Dk} (hn : A.n = B.n) (hc : ∀ i, A.cur i = B.cur i) : A.sync.same B.sync := ⟨hn, rfl, fun i _ => hc i⟩
theorem apart_same (E F : List UInt8) (s : Nat) (h : 8 ≤ s) : (put (put (Dk.new 24) 0 E 8) s F 8).sync.same (put (put (Dk.new 24) s F 8) 0 E 8).sync := by
  refine same_sync ?_ fun i => ?_
  · rw [put_n, put_n, put_n, put_n]
  · rw [put_cur, put_cur, put_cur, put_cur]
    by_cases h1 : s ≤ i ∧ i < s + 8
    · rw [if_pos h1, if_neg (by omega), if_pos h1]
    · rw [if_neg h1, if_neg h1]
/-- a disk variable -/
structure Bx (w : World) (H : Nat) (d : DV) (D : Dk) : Prop where
  k : Blk w H 52 d.cs
  d : DkV w d D
theorem Bx.keep {w w' : World} {H : Nat} {d : DV} {D : Dk} (h : Bx w H d D) (hb : Below w.heap.size w w') : Bx w' H d D := ⟨h.k.keep hb, h.d.keep hb⟩
theorem Bx.other {w w' : World} {H H' : Nat} {d d' : DV} {D : Dk} (h : Bx w H d D) (hk : Blk w H' 52 d'.cs) (hr : w.grownBy w' (some H')) (hne : H ≠ H') : Bx w' H d D :=
  ⟨h.k.grown hr (by simp; omega), h.d.kept (Kept.grown hr hk notDk)⟩
theorem Bx.put {w w' : World} {H : Nat} {d d' : DV} {D D' : Dk} (h : Bx w H d D) (hk : Blk w' H 52 d'.cs) (hr : w.grownBy w' (some H)) (hd : DkV w d' D') : Bx w' H d' D' :=
  ⟨hk, hd.kept (Kept.grown hr h.k notDk)⟩
/-- where a law stands that holds two pages -/
structure Pq (w0 : World) (p q : Pg) (w : World) : Prop where
  k1 : Blk w w0.heap.size 25 p.cs
  k2 : Blk w (w0.heap.size + 1) 25 q.cs
  b : Below w0.heap.size w0 w
theorem Pq.keep {w0 w w' : World} {p q : Pg} (h : Pq w0 p q w) (hb : Below w.heap.size w w') : Pq w0 p q w' :=
  ⟨h.k1.keep hb, h.k2.keep hb, h.b.trans (hb.mono h.b.size)⟩
theorem Pq.store {w0 w w' : World} {p q : Pg} {H : Nat} (h : Pq w0 p q w) (hr : w.grownBy w' (some H)) (hz : w0.heap.size + 1 < H) : Pq w0 p q w' :=
  ⟨h.k1.grown hr (by simp; omega), h.k2.grown hr (by simp; omega), h.b.grown hr h.b.size (fun k hk => by cases hk; omega)⟩

set_option maxRecDepth 100000 in
set_option maxHeartbeats 4000000 in
theorem apart_walk (p q : Pg) (gap : Nat) (w : World) (hT : Tab w) (hp : p.ok w) (hq : q.ok w) (hgap : gap ≤ 255) :
    Calls Tryd.prog 7 #[p.v, q.v, .int .u8 gap] w fun e w' => e = .returned (.bool true) ∧ Below w.heap.size w w' := by
  have hp0 := hid hp
  have hq0 := hid hq
  obtain ⟨id1, st1, kd1, A1, n1, c1, l1⟩ := p
  obtain ⟨id2, st2, kd2, A2, n2, c2, l2⟩ := q
  obtain ⟨rb1, nc1, cm1, hs1, _, _, _, _⟩ := hp
  obtain ⟨rb2, nc2, cm2, hs2, _, _, _, _⟩ := hq
  dsimp only at *
  simp only [Pg.v, pageV]
  by_cases hw1 : wrong id1 kd1 n1 = 0
  rotate_left
  · have t1 : (wrong id1 kd1 n1 == 0) = false := by rw [beq_eq_false_iff_ne]; exact hw1
    have t2 : (wrong id1 kd1 n1 != 0) = true := by rw [bne_iff_ne]; exact hw1
    clear hw1
    go_enter Tryd.func7, Tryd.ntmps7
    go_wp2_with fail
    generalize hw1 : World.alloc (World.alloc w _) _ = w1
    obtain ⟨k1, k2, hB⟩ := two_boxes_eq (cs1 := [.int .i64 id1, .int .u64 st1, .int .i64 kd1, .slice A1 n1 c1]) (cs2 := [.int .i64 id2, .int .u64 st2, .int .i64 kd2, .slice A2 n2 c2]) hw1
    clear hw1
    refine (wrong_any id1 kd1 st1 A1 n1 c1 _ (by omega)).mono ?_
    rintro e w2 ⟨rfl, b2⟩
    have B2 := hB.trans (b2.mono hB.size)
    go_wp2_with fail
    refine (awake_any _ (hT.keep B2)).mono ?_
    rintro e w3 ⟨rfl, b3⟩
    go_wp2_with fail
    go_ret
    exact ⟨rfl, B2.trans (b3.mono B2.size)⟩
  have HW1 := hid hw1
  obtain ⟨i1, j1, rfl, rfl, a1, a2, a3⟩ := right_of hw1
  clear hw1
  by_cases hw2 : wrong id2 kd2 n2 = 0
  rotate_left
  · have t1 : (wrong id2 kd2 n2 == 0) = false := by rw [beq_eq_false_iff_ne]; exact hw2
    have t2 : (wrong id2 kd2 n2 != 0) = true := by rw [bne_iff_ne]; exact hw2
    clear hw2
    go_enter Tryd.func7, Tryd.ntmps7
    go_wp2_with fail
    generalize hw1 : World.alloc (World.alloc w _) _ = w1
    obtain ⟨k1, k2, hB⟩ := two_boxes_eq (cs1 := [.int .i64 i1, .int .u64 st1, .int .i64 j1, .slice A1 n1 c1]) (cs2 := [.int .i64 id2, .int .u64 st2, .int .i64 kd2, .slice A2 n2 c2]) hw1
    clear hw1
    refine (wrong_any i1 j1 st1 A1 n1 c1 _ (by omega)).mono ?_
    rw [HW1.out]
    rintro e w2 ⟨rfl, b2⟩
    have B2 := hB.trans (b2.mono hB.size)
    obtain ⟨x0, x1, x2, x3⟩ := (k2.keep b2).c4
    go_wp2_with fail
    refine (wrong_any id2 kd2 st2 A2 n2 c2 _ (by omega)).mono ?_
    rintro e w3 ⟨rfl, b3⟩
    have B3 := B2.trans (b3.mono B2.size)
    go_wp2_with fail
    refine (awake_any _ (hT.keep B3)).mono ?_
    rintro e w4 ⟨rfl, b4⟩
    go_wp2_with fail
    go_ret
    exact ⟨rfl, B3.trans (b4.mono B3.size)⟩
  have HW2 := hid hw2
  obtain ⟨i2, j2, rfl, rfl, e1, e2, e3⟩ := right_of hw2
  clear hw2
  have HL1 := hid rb1.len
  have HL2 := hid rb2.len
  go_enter Tryd.func7, Tryd.ntmps7
  go_wp2_with fail
  generalize hw1 : World.alloc (World.alloc w _) _ = w1
  obtain ⟨k1, k2, hB⟩ := two_boxes_eq (cs1 := [.int .i64 i1, .int .u64 st1, .int .i64 j1, .slice A1 n1 c1]) (cs2 := [.int .i64 i2, .int .u64 st2, .int .i64 j2, .slice A2 n2 c2]) hw1
  clear hw1
  have P1 : Pq w ⟨i1, st1, j1, A1, n1, c1, l1⟩ ⟨i2, st2, j2, A2, n2, c2, l2⟩ w1 := ⟨k1, k2, hB⟩
  clear k1 k2 hB
  refine (wrong_any i1 j1 st1 A1 n1 c1 _ (by omega)).mono ?_
  rw [HW1.out]
  rintro e w2 ⟨rfl, b2⟩
  have P2 := P1.keep b2
  clear P1 b2
  obtain ⟨x0, x1, x2, x3⟩ := P2.k2.c4
  go_wp2_with fail
  refine (wrong_any i2 j2 st2 A2 n2 c2 _ (by omega)).mono ?_
  rw [HW2.out]
  rintro e w3 ⟨rfl, b3⟩
  have P3 := P2.keep b3
  clear P2 b3 x0 x1 x2 x3
  go_wp2_with fail
  obtain ⟨s, hs8, hs15, hat⟩ : ∃ s : Nat, 8 ≤ s ∧ s ≤ 15 ∧ (8 + (gap : Int) % 8) = (s : Int) := ⟨8 + gap % 8, by omega, by omega, by omega⟩
  simp only [hat]
  clear hat
  refine (new_ok 24 _ (by omega) (by omega)).mono ?_
  rintro e w4 ⟨rfl, b4⟩
  have P4 := P3.keep b4
  clear P3 b4
  obtain ⟨x0, x1, x2, x3⟩ := P4.k1.c4
  have hz4 := P4.k2.lt
  have hz5 := P4.k1.lt
  simp only [DV.v]
  go_wp2_with fail
  have hP : Blk (w4.alloc (.cells #[.int .i64 (24 : Nat), .pointer none, .pointer none, .pointer none, .int .i64 (0 : Nat)] 52)) w4.heap.size 52 [.int .i64 (24 : Nat), .pointer none, .pointer none, .pointer none, .int .i64 (0 : Nat)] := Blk.new w4 _ _
  have hB : Below w4.heap.size w4 (w4.alloc (.cells #[.int .i64 (24 : Nat), .pointer none, .pointer none, .pointer none, .int .i64 (0 : Nat)] 52)) := (Below.refl _ _).alloc (Nat.le_refl _) _
  have hS : (w4.alloc (.cells #[.int .i64 (24 : Nat), .pointer none, .pointer none, .pointer none, .int .i64 (0 : Nat)] 52)).heap.size = w4.heap.size + 1 := by simp
  generalize (w4.alloc (.cells #[.int .i64 (24 : Nat), .pointer none, .pointer none, .pointer none, .int .i64 (0 : Nat)] 52)) = w5 at hP hB hS ⊢
  have P5 := P4.keep hB
  have D5 : Bx w5 w4.heap.size ⟨24, none, none, none, 0⟩ (Dk.new 24) := ⟨hP, DkV.new w5 24 (by omega)⟩
  clear P4 hP hB hS x0 x1 x2 x3 hz5
  generalize w4.heap.size = H0 at *
  have hH0 := D5.k.lt
  have C1 := pwrite_good ⟨24, none, none, none, 0⟩ (Dk.new 24) ⟨i1, st1, j1, A1, n1, c1, l1⟩ 0 w5 (hT.keep P5.b) D5.d (hp0.out.below P5.b) i1 j1 rfl a1 rfl a2 a3 (by decide) (by decide)
  dsimp only at C1
  have HE1 := hid (enc_len i1 st1 j1 l1 (by rw [HL1.out]; exact a3))
  have HE2 := hid (enc_len i2 st2 j2 l2 (by rw [HL2.out]; exact e3))
  have HSM := hid (apart_same (encoded i1 st1 j1 l1) (encoded i2 st2 j2 l2) s hs8)
  have HX := hid (show (put (Dk.new 24) 0 (encoded i1 st1 j1 l1) 8).n = 24 ∧ (put (Dk.new 24) 0 (encoded i1 st1 j1 l1) 8).W.length ≤ 100 ∧ secs (put (Dk.new 24) 0 (encoded i1 st1 j1 l1) 8).cur 0 8 = encoded i1 st1 j1 l1 from ⟨put_n _ _ _ 8, by rw [put_W]; exact (by decide : 0 + 8 ≤ 100), secs_put _ _ _ HE1.out⟩)
  have HZ := hid (show (put (Dk.new 24) s (encoded i2 st2 j2 l2) 8).n = 24 ∧ (put (Dk.new 24) s (encoded i2 st2 j2 l2) 8).W.length ≤ 100 from ⟨put_n _ _ _ 8, by rw [put_W]; exact (by decide : 0 + 8 ≤ 100)⟩)
  obtain ⟨X, hX⟩ : ∃ X, put (Dk.new 24) 0 (encoded i1 st1 j1 l1) 8 = X := ⟨_, rfl⟩
  obtain ⟨Z, hZ⟩ : ∃ Z, put (Dk.new 24) s (encoded i2 st2 j2 l2) 8 = Z := ⟨_, rfl⟩
  rw [hX, hZ] at HSM
  rw [hX] at HX C1
  rw [hZ] at HZ
  have HXE := hid hX
  have HZE := hid hZ
  clear hX hZ
  refine C1.mono ?_
  clear C1
  rintro e w6 ⟨d6, rfl, hd6, b6⟩
  have P6 := P5.keep b6
  have D6 := D5.keep b6
  have hH06 := D6.k.lt
  clear P5 D5 b6
  obtain ⟨y0, y1, y2, y3⟩ := P6.k2.c4
  have hz6 := P6.k2.lt
  simp only [DV.v]
  go_wp2_with fail
  have hP : Blk (w6.alloc (.cells #[.int .i64 d6.n, .pointer d6.s, .pointer d6.c, .pointer d6.l, .int .i64 d6.m] 52)) w6.heap.size 52 [.int .i64 d6.n, .pointer d6.s, .pointer d6.c, .pointer d6.l, .int .i64 d6.m] := Blk.new w6 _ _
  have hB : Below w6.heap.size w6 (w6.alloc (.cells #[.int .i64 d6.n, .pointer d6.s, .pointer d6.c, .pointer d6.l, .int .i64 d6.m] 52)) := (Below.refl _ _).alloc (Nat.le_refl _) _
  have hS : (w6.alloc (.cells #[.int .i64 d6.n, .pointer d6.s, .pointer d6.c, .pointer d6.l, .int .i64 d6.m] 52)).heap.size = w6.heap.size + 1 := by simp
  generalize (w6.alloc (.cells #[.int .i64 d6.n, .pointer d6.s, .pointer d6.c, .pointer d6.l, .int .i64 d6.m] 52)) = w7 at hP hB hS ⊢
  have P7 := P6.keep hB
  have D7 := D6.keep hB
  have A7 : Bx w7 w6.heap.size d6 X := ⟨hP, hd6.keep hB⟩
  have hH1 : w.heap.size + 1 < w6.heap.size ∧ H0 < w6.heap.size := ⟨hz6, hH06⟩
  clear P6 D6 hP hB hS hd6 y0 y1 y2 y3 hz6 hH06 hH0
  generalize w6.heap.size = H1 at *
  have C2 := pwrite_good d6 X ⟨i2, st2, j2, A2, n2, c2, l2⟩ s w7 (hT.keep P7.b) A7.d (hq0.out.below P7.b) i2 j2 rfl e1 rfl e2 e3 (by rw [HX.out.1]; omega) (by have := HX.out.2.1; omega)
  dsimp only at C2
  refine C2.mono ?_
  clear C2
  rintro e w8 ⟨d8, rfl, hd8, b8⟩
  have P8 := P7.keep b8
  have D8 := D7.keep b8
  have A8 := A7.keep b8
  clear P7 D7 A7 b8
  go_wp2_with ((with_reducible refine is_store 52 ?_); refine wp_storeB H1 _ _ d8.cs A8.k diskN rfl (dv_one _) rfl rfl ?_; intro w9 kn rn; go_frame; have A9 := A8.put kn rn hd8; have D9 := D8.other A8.k rn (by omega); have P9 := P8.store rn hH1.1; clear kn rn; obtain ⟨x0, x1, x2, x3, x4⟩ := D9.k.c5; obtain ⟨y0, y1, y2, y3⟩ := P9.k2.c4)
  clear A8 D8 P8 hd8
  obtain ⟨XA, hXA⟩ : ∃ Y, put X s (encoded i2 st2 j2 l2) 8 = Y := ⟨_, rfl⟩
  have HA := hid (show XA.n = 24 ∧ secs XA.cur 0 8 = encoded i1 st1 j1 l1 ∧ secs XA.cur s 8 = encoded i2 st2 j2 l2 by
    subst hXA
    exact ⟨(put_n _ _ _ 8).trans HX.out.1, (secs_other X s 0 _ (.inl (by omega))).trans HX.out.2.2, secs_put _ _ _ HE2.out⟩)
  rw [hXA] at HSM A9
  clear hXA HX HXE
  have C3 := pwrite_good ⟨24, none, none, none, 0⟩ (Dk.new 24) ⟨i2, st2, j2, A2, n2, c2, l2⟩ s w9 (hT.keep P9.b) D9.d (hq0.out.below P9.b) i2 j2 rfl e1 rfl e2 e3 (by show s + 8 ≤ 24; omega) (Nat.zero_le _)
  dsimp only at C3
  rw [HZE.out] at C3
  clear HZE
  refine C3.mono ?_
  clear C3
  rintro e w10 ⟨d10, rfl, hd10, b10⟩
  have P10 := P9.keep b10
  have D10 := D9.keep b10
  have A10 := A9.keep b10
  clear P9 D9 A9 b10 x0 x1 x2 x3 x4 y0 y1 y2 y3
  obtain ⟨y0, y1, y2, y3⟩ := P10.k1.c4
  have hz10 := P10.k1.lt
  have hH10 := A10.k.lt
  simp only [DV.v]
  go_wp2_with fail
  have hP : Blk (w10.alloc (.cells #[.int .i64 d10.n, .pointer d10.s, .pointer d10.c, .pointer d10.l, .int .i64 d10.m] 52)) w10.heap.size 52 [.int .i64 d10.n, .pointer d10.s, .pointer d10.c, .pointer d10.l, .int .i64 d10.m] := Blk.new w10 _ _
  have hB : Below w10.heap.size w10 (w10.alloc (.cells #[.int .i64 d10.n, .pointer d10.s, .pointer d10.c, .pointer d10.l, .int .i64 d10.m] 52)) := (Below.refl _ _).alloc (Nat.le_refl _) _
  have hS : (w10.alloc (.cells #[.int .i64 d10.n, .pointer d10.s, .pointer d10.c, .pointer d10.l, .int .i64 d10.m] 52)).heap.size = w10.heap.size + 1 := by simp
  generalize (w10.alloc (.cells #[.int .i64 d10.n, .pointer d10.s, .pointer d10.c, .pointer d10.l, .int .i64 d10.m] 52)) = w11 at hP hB hS ⊢
  have P11 := P10.keep hB
  have A11 := A10.keep hB
  have B11 : Bx w11 w10.heap.size d10 Z := ⟨hP, hd10.keep hB⟩
  clear P10 D10 A10 hP hB hS hd10 y0 y1 y2 y3 hz10
  generalize w10.heap.size = H2 at *
  have C4 := pwrite_good d10 Z ⟨i1, st1, j1, A1, n1, c1, l1⟩ 0 w11 (hT.keep P11.b) B11.d (hp0.out.below P11.b) i1 j1 rfl a1 rfl a2 a3 (by rw [HZ.out.1]; omega) (by have := HZ.out.2; omega)
  dsimp only at C4
  obtain ⟨XB, hXB⟩ : ∃ Y, put Z 0 (encoded i1 st1 j1 l1) 8 = Y := ⟨_, rfl⟩
  rw [hXB] at HSM C4
  clear hXB HZ
  refine C4.mono ?_
  clear C4
  rintro e w12 ⟨d12, rfl, hd12, b12⟩
  have P12 := P11.keep b12
  have A12 := A11.keep b12
  have B12 := B11.keep b12
  clear P11 A11 B11 b12
  go_wp2_with ((with_reducible refine is_store 52 ?_); refine wp_storeB H2 _ _ d12.cs B12.k diskN rfl (dv_one _) rfl rfl ?_; intro w13 kn rn; go_frame; have B13 := B12.put kn rn hd12; have A13 := A12.other B12.k rn (by omega); have P13 := P12.store rn (by omega); clear kn rn)
  clear P12 A12 B12 hd12
  have g1 : ∀ x : Ext w13, x.w.cell? ⟨H1, 0, none⟩ = some (.int .i64 d8.n) ∧ x.w.cell? ⟨H1, 1, none⟩ = some (.pointer d8.s) ∧ x.w.cell? ⟨H1, 2, none⟩ = some (.pointer d8.c) ∧ x.w.cell? ⟨H1, 3, none⟩ = some (.pointer d8.l) ∧ x.w.cell? ⟨H1, 4, none⟩ = some (.int .i64 d8.m) := fun x => (A13.k.keep x.h).c5
  have g2 : ∀ x : Ext w13, x.w.cell? ⟨H2, 0, none⟩ = some (.int .i64 d12.n) ∧ x.w.cell? ⟨H2, 1, none⟩ = some (.pointer d12.s) ∧ x.w.cell? ⟨H2, 2, none⟩ = some (.pointer d12.c) ∧ x.w.cell? ⟨H2, 3, none⟩ = some (.pointer d12.l) ∧ x.w.cell? ⟨H2, 4, none⟩ = some (.int .i64 d12.m) := fun x => (B13.k.keep x.h).c5
  have g10 := fun x => (g1 x).1
  have g11 := fun x => (g1 x).2.1
  have g12 := fun x => (g1 x).2.2.1
  have g13 := fun x => (g1 x).2.2.2.1
  have g14 := fun x => (g1 x).2.2.2.2
  have g20 := fun x => (g2 x).1
  have g21 := fun x => (g2 x).2.1
  have g22 := fun x => (g2 x).2.2.1
  have g23 := fun x => (g2 x).2.2.2.1
  have g24 := fun x => (g2 x).2.2.2.2
  have S1 := fun x : Ext w13 => sync_any d8 x.w
  have S2 := fun x : Ext w13 => sync_any d12 x.w
  have S3 := fun x : Ext w13 => dkEqual_any d8.sync d12.sync XA.sync XB.sync x.w (A13.d.keep x.h).sync (B13.d.keep x.h).sync true ⟨fun _ => HSM.out, fun _ => rfl⟩
  dsimp only [DV.v, DV.sync] at S1 S2 S3
  have HS := hid (And.intro S1 (And.intro S2 S3))
  clear g1 g2 S1 S2 S3
  (refine wp_region_ext (by kernel_rfl) (by kernel_rfl) ?_; (repeat (go_big_quiet_step ((first | with_reducible exact Ext.calls _ (HS.out.1 _) | with_reducible exact Ext.calls _ (HS.out.2.1 _) | (go_at_call 21; exact Ext.calls _ (HS.out.2.2 _)))))); refine wpQuiet_nil ?_; rintro _ ⟨z, rfl⟩)
  clear g10 g11 g12 g13 g14 g20 g21 g22 g23 g24 HS HSM B13
  have P14 := P13.keep z.h
  have A14 := A13.keep z.h
  clear P13 A13
  generalize z.w = w14 at *
  clear z
  obtain ⟨x0, x1, x2, x3, x4⟩ := A14.k.c5
  have hn14 := HA.out.1
  go_wp2_with fail
  have R1 := pread_enc d8 XA 0 w14 i1 st1 j1 l1 (hT.keep P14.b) A14.d (by rw [hn14]; decide) HA.out.2.1 a1 a2 (by rw [HL1.out]; exact a3) hs1
  dsimp only [DV.v] at R1
  refine R1.mono ?_
  clear R1
  rintro e w15 ⟨p15, rfl, hp15, b15⟩
  have P15 := P14.keep b15
  have A15 := A14.keep b15
  clear P14 A14 b15 x0 x1 x2 x3 x4
  obtain ⟨x0, x1, x2, x3, x4⟩ := A15.k.c5
  have hz := A15.k.lt
  simp only [Pg.v, pageV]
  go_wp2_with fail
  have hP : Blk (w15.alloc (.cells #[.int .i64 p15.id, .int .u64 p15.stamp, .int .i64 p15.kind, .slice p15.A p15.n p15.c] 25)) w15.heap.size 25 [.int .i64 p15.id, .int .u64 p15.stamp, .int .i64 p15.kind, .slice p15.A p15.n p15.c] := Blk.new w15 _ _
  have hB : Below w15.heap.size w15 (w15.alloc (.cells #[.int .i64 p15.id, .int .u64 p15.stamp, .int .i64 p15.kind, .slice p15.A p15.n p15.c] 25)) := (Below.refl _ _).alloc (Nat.le_refl _) _
  have hS : (w15.alloc (.cells #[.int .i64 p15.id, .int .u64 p15.stamp, .int .i64 p15.kind, .slice p15.A p15.n p15.c] 25)).heap.size = w15.heap.size + 1 := by simp
  generalize (w15.alloc (.cells #[.int .i64 p15.id, .int .u64 p15.stamp, .int .i64 p15.kind, .slice p15.A p15.n p15.c] 25)) = w16 at hP hB hS ⊢
  have P16 := P15.keep hB
  have A16 := A15.keep hB
  have hp16 := hp15.below hB
  have hP16 := hP
  clear P15 A15 hp15 hB hS hP x0 x1 x2 x3 x4 hz
  have R2 := pread_enc d8 XA s w16 i2 st2 j2 l2 (hT.keep P16.b) A16.d (by rw [hn14]; omega) HA.out.2.2 e1 e2 (by rw [HL2.out]; exact e3) hs2
  dsimp only [DV.v] at R2
  refine R2.mono ?_
  clear R2
  rintro e w17 ⟨q17, rfl, hq17, b17⟩
  have P17 := P16.keep b17
  have hp17 := hp16.below b17
  have kp17 := hP16.keep b17
  clear P16 A16 hp16 hP16 b17
  obtain ⟨x0, x1, x2, x3⟩ := P17.k1.c4
  obtain ⟨y0, y1, y2, y3⟩ := P17.k2.c4
  obtain ⟨z0, z1, z2, z3⟩ := kp17.c4
  have hz1 := P17.k1.lt
  have hz2 := P17.k2.lt
  have hz3 := kp17.lt
  simp only [Pg.v, pageV]
  go_wp2_with fail
  have hP : Blk (w17.alloc (.cells #[.int .i64 q17.id, .int .u64 q17.stamp, .int .i64 q17.kind, .slice q17.A q17.n q17.c] 25)) w17.heap.size 25 [.int .i64 q17.id, .int .u64 q17.stamp, .int .i64 q17.kind, .slice q17.A q17.n q17.c] := Blk.new w17 _ _
  have hB : Below w17.heap.size w17 (w17.alloc (.cells #[.int .i64 q17.id, .int .u64 q17.stamp, .int .i64 q17.kind, .slice q17.A q17.n q17.c] 25)) := (Below.refl _ _).alloc (Nat.le_refl _) _
  have hS : (w17.alloc (.cells #[.int .i64 q17.id, .int .u64 q17.stamp, .int .i64 q17.kind, .slice q17.A q17.n q17.c] 25)).heap.size = w17.heap.size + 1 := by simp
  generalize (w17.alloc (.cells #[.int .i64 q17.id, .int .u64 q17.stamp, .int .i64 q17.kind, .slice q17.A q17.n q17.c] 25)) = w18 at hP hB hS ⊢
  have P18 := P17.keep hB
  have hq18 := hq17.below hB
  have hp18 := hp17.below hB
  clear P17 kp17 hp17 hq17 hB hS x0 x1 x2 x3 y0 y1 y2 y3 z0 z1 z2 z3 hz1 hz2 hz3
  have hA18 : Reads w18 ⟨i1, st1, j1, A1, n1, c1, l1⟩ ⟨i1, st1, j1, l1, 0⟩ := ⟨hp0.out.below P18.b, rfl, rfl, rfl, rfl⟩
  refine (same_reads p15 _ _ w18 hp18 hA18).mono ?_
  rintro e w19 ⟨rfl, b19⟩
  have P19 := P18.keep b19
  have hq19 := hq18.below b19
  have hB19 : Reads w19 ⟨i2, st2, j2, A2, n2, c2, l2⟩ ⟨i2, st2, j2, l2, 0⟩ := ⟨hq0.out.below P19.b, rfl, rfl, rfl, rfl⟩
  obtain ⟨y0, y1, y2, y3⟩ := P19.k2.c4
  obtain ⟨z0, z1, z2, z3⟩ := (hP.keep b19).c4
  clear P18 hp18 hq18 hA18 b19 hP
  go_wp2_with fail
  refine (same_reads q17 _ _ w19 hq19 hB19).mono ?_
  rintro e w20 ⟨rfl, b20⟩
  have P20 := P19.keep b20
  go_wp2_with fail
  refine (awake_any _ (hT.keep P20.b)).mono ?_
  rintro e w21 ⟨rfl, b21⟩
  go_wp2_with fail
  go_ret
  exact ⟨rfl, P20.b.trans (b21.mono P20.b.size)⟩
end Go.Proofs.YtjaoipdmchofoaaDoor
