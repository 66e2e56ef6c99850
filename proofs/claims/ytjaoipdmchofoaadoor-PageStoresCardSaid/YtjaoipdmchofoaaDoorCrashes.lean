/- The walk of PageCrashes. Conditions: the table of remainders is laid; the pages' bodies read. -/
import Derived.Test.YtjaoipdmchofoaaDoorPgP
import Derived.Test.YtjaoipdmchofoaaDoorDetects
set_option linter.unusedSimpArgs false
set_option linter.unusedVariables false
namespace Go.Proofs.YtjaoipdmchofoaaDoor
open Go.RowKit

theorem two_boxes_eq {w w3 : World} {T1 T2 : TypeId} {cs1 cs2 : List Value} (e : (w.alloc (.cells cs1.toArray T1)).alloc (.cells cs2.toArray T2) = w3) :
    Blk w3 w.heap.size T1 cs1 ∧ Blk w3 (w.heap.size + 1) T2 cs2 ∧ Below w.heap.size w w3 := by
  subst e
  exact two_boxes (Below.refl _ _)
/-- a page that is in order is read back -/
theorem pread_enc (d : DV) (D : Dk) (s : Nat) (w : World) (id stamp kind : Nat) (l : List UInt8) (hT : Tab w) (hd : DkV w d D) (h : s + 8 ≤ D.n) (hs : secs D.cur s 8 = encoded id stamp kind l) (h1 : id ≤ 2147483647) (h2 : kind ≤ 255) (h3 : l.length ≤ 1000) (h4 : stamp < 18446744073709551616) :
    Calls Tryd.prog 23 #[d.v, .int .i64 s] w fun e w' => ∃ p : Pg, e = .returned (.tuple #[p.v, .int .i64 0]) ∧ Reads w' p ⟨id, stamp, kind, l, 0⟩ ∧ Below w.heap.size w w' := by
  have := pread_good d D s w hT hd h
  rw [hs, decoded_enc id stamp kind l h1 h2 h3 h4] at this
  exact this

theorem dv_one (d : DV) : ∀ v ∈ d.cs, v.oneCell' = true := by
  intro v hv
  simp only [DV.cs, List.mem_cons, List.not_mem_nil, or_false] at hv
  rcases hv with rfl | rfl | rfl | rfl | rfl <;> rfl
/-- where a law stands that holds two pages and one disk variable -/
structure St (w0 : World) (p q : Pg) (H : Nat) (w : World) (d : DV) (D : Dk) : Prop where
  k1 : Blk w w0.heap.size 25 p.cs
  k2 : Blk w (w0.heap.size + 1) 25 q.cs
  kd : Blk w H 52 d.cs
  hd : DkV w d D
  b : Below w0.heap.size w0 w
  hz : w0.heap.size + 1 < H
theorem St.keep {w0 w w' : World} {p q : Pg} {H : Nat} {d : DV} {D : Dk} (h : St w0 p q H w d D) (hb : Below w.heap.size w w') : St w0 p q H w' d D :=
  ⟨h.k1.keep hb, h.k2.keep hb, h.kd.keep hb, h.hd.keep hb, h.b.trans (hb.mono h.b.size), h.hz⟩
theorem St.store {w0 w w' : World} {p q : Pg} {H : Nat} {d d' : DV} {D D' : Dk} (h : St w0 p q H w d D) (hk : Blk w' H 52 d'.cs) (hr : w.grownBy w' (some H)) (hd : DkV w d' D') : St w0 p q H w' d' D' :=
  ⟨h.k1.grown hr (by have := h.hz; simp; omega), h.k2.grown hr (by have := h.hz; simp; omega), hk, hd.kept (Kept.grown hr h.kd notDk), h.b.grown hr h.b.size (fun k hk => by cases hk; have := h.hz; omega), h.hz⟩

set_option maxRecDepth 100000 in
set_option maxHeartbeats 4000000 in
theorem crashes_walk (p q : Pg) (w : World) (hT : Tab w) (hp : p.ok w) (hq : q.ok w) :
    Calls Tryd.prog 8 #[p.v, q.v] w fun e w' => e = .returned (.bool true) ∧ Below w.heap.size w w' := by
  have hp0 := hid hp
  have hq0 := hid hq
  obtain ⟨id1, st1, kd1, A1, n1, c1, l1⟩ := p
  obtain ⟨id2, st2, kd2, A2, n2, c2, l2⟩ := q
  obtain ⟨rb1, nc1, cm1, hs1, _, _, _, _⟩ := hp
  obtain ⟨rb2, nc2, cm2, hs2, _, _, _, _⟩ := hq
  dsimp only at *
  simp only [Pg.v, pageV]
  by_cases hw1 : wrong id1 kd1 n1 = 0
  rotate_left
  · have t1 : (wrong id1 kd1 n1 == 0) = false := by rw [beq_eq_false_iff_ne]; exact hw1
    have t2 : (wrong id1 kd1 n1 != 0) = true := by rw [bne_iff_ne]; exact hw1
    clear hw1
    go_enter Tryd.func8, Tryd.ntmps8
    go_wp2_with fail
    generalize hw1 : World.alloc (World.alloc w _) _ = w1
    obtain ⟨k1, k2, hB⟩ := two_boxes_eq (cs1 := [.int .i64 id1, .int .u64 st1, .int .i64 kd1, .slice A1 n1 c1]) (cs2 := [.int .i64 id2, .int .u64 st2, .int .i64 kd2, .slice A2 n2 c2]) hw1
    clear hw1
    refine (wrong_any id1 kd1 st1 A1 n1 c1 _ (by omega)).mono ?_
    rintro e w2 ⟨rfl, b2⟩
    have B2 := hB.trans (b2.mono hB.size)
    go_wp2_with fail
    refine (awake_any _ (hT.keep B2)).mono ?_
    rintro e w3 ⟨rfl, b3⟩
    go_wp2_with fail
    go_ret
    exact ⟨rfl, B2.trans (b3.mono B2.size)⟩
  have HW1 := hid hw1
  obtain ⟨i1, j1, rfl, rfl, a1, a2, a3⟩ := right_of hw1
  clear hw1
  by_cases hw2 : wrong id2 kd2 n2 = 0
  rotate_left
  · have t1 : (wrong id2 kd2 n2 == 0) = false := by rw [beq_eq_false_iff_ne]; exact hw2
    have t2 : (wrong id2 kd2 n2 != 0) = true := by rw [bne_iff_ne]; exact hw2
    clear hw2
    go_enter Tryd.func8, Tryd.ntmps8
    go_wp2_with fail
    generalize hw1 : World.alloc (World.alloc w _) _ = w1
    obtain ⟨k1, k2, hB⟩ := two_boxes_eq (cs1 := [.int .i64 i1, .int .u64 st1, .int .i64 j1, .slice A1 n1 c1]) (cs2 := [.int .i64 id2, .int .u64 st2, .int .i64 kd2, .slice A2 n2 c2]) hw1
    clear hw1
    refine (wrong_any i1 j1 st1 A1 n1 c1 _ (by omega)).mono ?_
    rw [HW1.out]
    rintro e w2 ⟨rfl, b2⟩
    have B2 := hB.trans (b2.mono hB.size)
    obtain ⟨x0, x1, x2, x3⟩ := (k2.keep b2).c4
    go_wp2_with fail
    refine (wrong_any id2 kd2 st2 A2 n2 c2 _ (by omega)).mono ?_
    rintro e w3 ⟨rfl, b3⟩
    have B3 := B2.trans (b3.mono B2.size)
    go_wp2_with fail
    refine (awake_any _ (hT.keep B3)).mono ?_
    rintro e w4 ⟨rfl, b4⟩
    go_wp2_with fail
    go_ret
    exact ⟨rfl, B3.trans (b4.mono B3.size)⟩
  have HW2 := hid hw2
  obtain ⟨i2, j2, rfl, rfl, e1, e2, e3⟩ := right_of hw2
  clear hw2
  have HL1 := hid rb1.len
  have HL2 := hid rb2.len
  go_enter Tryd.func8, Tryd.ntmps8
  go_wp2_with fail
  generalize hw1 : World.alloc (World.alloc w _) _ = w1
  obtain ⟨k1, k2, hB⟩ := two_boxes_eq (cs1 := [.int .i64 i1, .int .u64 st1, .int .i64 j1, .slice A1 n1 c1]) (cs2 := [.int .i64 i2, .int .u64 st2, .int .i64 j2, .slice A2 n2 c2]) hw1
  clear hw1
  refine (wrong_any i1 j1 st1 A1 n1 c1 _ (by omega)).mono ?_
  rw [HW1.out]
  rintro e w2 ⟨rfl, b2⟩
  have B2 := hB.trans (b2.mono hB.size)
  have k12 := k1.keep b2
  have k22 := k2.keep b2
  obtain ⟨x0, x1, x2, x3⟩ := k22.c4
  clear k1 k2 hB b2
  go_wp2_with fail
  refine (wrong_any i2 j2 st2 A2 n2 c2 _ (by omega)).mono ?_
  rw [HW2.out]
  rintro e w3 ⟨rfl, b3⟩
  have B3 := B2.trans (b3.mono B2.size)
  have k13 := k12.keep b3
  have k23 := k22.keep b3
  clear k12 k22 B2 b3 x0 x1 x2 x3
  go_wp2_with fail
  refine (new_ok 10 _ (by omega) (by omega)).mono ?_
  rintro e w4 ⟨rfl, b4⟩
  have B4 := B3.trans (b4.mono B3.size)
  have k14 := k13.keep b4
  have k24 := k23.keep b4
  obtain ⟨x0, x1, x2, x3⟩ := k14.c4
  have hz4 := k24.lt
  have hz5 := k14.lt
  clear k13 k23 B3 b4
  simp only [DV.v]
  go_wp2_with fail
  have hP : Blk (w4.alloc (.cells #[.int .i64 (10 : Nat), .pointer none, .pointer none, .pointer none, .int .i64 (0 : Nat)] 52)) w4.heap.size 52 [.int .i64 (10 : Nat), .pointer none, .pointer none, .pointer none, .int .i64 (0 : Nat)] := Blk.new w4 _ _
  have hB : Below w4.heap.size w4 (w4.alloc (.cells #[.int .i64 (10 : Nat), .pointer none, .pointer none, .pointer none, .int .i64 (0 : Nat)] 52)) := (Below.refl _ _).alloc (Nat.le_refl _) _
  have hS : (w4.alloc (.cells #[.int .i64 (10 : Nat), .pointer none, .pointer none, .pointer none, .int .i64 (0 : Nat)] 52)).heap.size = w4.heap.size + 1 := by simp
  generalize (w4.alloc (.cells #[.int .i64 (10 : Nat), .pointer none, .pointer none, .pointer none, .int .i64 (0 : Nat)] 52)) = w5 at hP hB hS ⊢
  have S5 : St w ⟨i1, st1, j1, A1, n1, c1, l1⟩ ⟨i2, st2, j2, A2, n2, c2, l2⟩ w4.heap.size w5 ⟨10, none, none, none, 0⟩ (Dk.new 10) := ⟨k14.keep hB, k24.keep hB, hP, DkV.new w5 10 (by omega), B4.trans (hB.mono B4.size), hz4⟩
  clear k14 k24 hP hB hS B4 x0 x1 x2 x3 hz4 hz5
  generalize w4.heap.size = H at *
  have C1 := pwrite_good ⟨10, none, none, none, 0⟩ (Dk.new 10) ⟨i1, st1, j1, A1, n1, c1, l1⟩ 1 w5 (hT.keep S5.b) S5.hd (hp0.out.below S5.b) i1 j1 rfl a1 rfl a2 a3 (by decide) (by decide)
  dsimp only at C1
  have hXn : (put (Dk.new 10) 1 (encoded i1 st1 j1 l1) 8).n = 10 := put_n _ _ _ 8
  have hXs := secs_put (Dk.new 10) 1 _ (enc_len i1 st1 j1 l1 (by rw [HL1.out]; exact a3))
  generalize put (Dk.new 10) 1 (encoded i1 st1 j1 l1) 8 = X at C1 hXn hXs
  have HXn := hid hXn
  have HXs := hid hXs
  clear hXn hXs
  refine C1.mono ?_
  clear C1
  rintro e w6 ⟨d6, rfl, hd6, b6⟩
  have S6 := S5.keep b6
  go_wp2_with ((with_reducible refine is_store 52 ?_); refine wp_storeB H _ _ d6.cs S6.kd diskN rfl (dv_one _) rfl rfl ?_; intro w7 kn rn; go_frame; have S7 := S6.store kn rn hd6; clear kn rn; obtain ⟨x0, x1, x2, x3, x4⟩ := S7.kd.c5; obtain ⟨y0, y1, y2, y3⟩ := S7.k2.c4)
  clear S5 S6 b6 hd6
  refine (sync_any d6 w7).mono ?_
  rintro e w8 ⟨rfl, b8⟩
  have S8 := S7.keep b8
  go_wp2_with ((with_reducible refine is_store 52 ?_); refine wp_storeB H _ _ d6.sync.cs S8.kd diskN rfl (dv_one _) rfl rfl ?_; intro w9 kn rn; go_frame; have S9 := S8.store kn rn S8.hd.sync; clear kn rn; obtain ⟨x0, x1, x2, x3, x4⟩ := S9.kd.c5; obtain ⟨y0, y1, y2, y3⟩ := S9.k2.c4)
  clear S7 S8 b8
  have C2 := pwrite_good d6.sync X.sync ⟨i2, st2, j2, A2, n2, c2, l2⟩ 1 w9 (hT.keep S9.b) S9.hd (hq0.out.below S9.b) i2 j2 rfl e1 rfl e2 e3 (by show 1 + 8 ≤ X.n; rw [HXn.out]; decide) (Nat.zero_le _)
  dsimp only at C2
  have hYs := secs_put X.sync 1 _ (enc_len i2 st2 j2 l2 (by rw [HL2.out]; exact e3))
  have hYn : (put X.sync 1 (encoded i2 st2 j2 l2) 8).n = 10 := (put_n _ _ _ 8).trans HXn.out
  have hYW : (put X.sync 1 (encoded i2 st2 j2 l2) 8).W.length ≤ 1000000 := by rw [put_W]; exact (by decide : 0 + 8 ≤ 1000000)
  have hY0 := crash_none X.sync 1 (encoded i2 st2 j2 l2) rfl
  have hY1 := crash_all X.sync 1 (encoded i2 st2 j2 l2) rfl
  generalize put X.sync 1 (encoded i2 st2 j2 l2) 8 = Y at C2 hYs hYn hYW hY0 hY1
  refine C2.mono ?_
  clear C2
  rintro e w10 ⟨d10, rfl, hd10, b10⟩
  have HY := hid (⟨hYs, hYn, (congrFun hY0 ·), (congrFun hY1 ·)⟩ : secs Y.cur 1 8 = encoded i2 st2 j2 l2 ∧ Y.n = 10 ∧ (∀ i, (Y.crash 0).cur i = X.cur i) ∧ (∀ i, (Y.crash 3280).cur i = Y.cur i))
  have HYW := hid hYW
  have S10 := S9.keep b10
  clear S9 b10 hYs hYn hYW hY0 hY1
  go_wp2_with ((with_reducible refine is_store 52 ?_); refine wp_storeB H _ _ d10.cs S10.kd diskN rfl (dv_one _) rfl rfl ?_; intro w11 kn rn; go_frame; have S11 := S10.store kn rn hd10; clear kn rn; obtain ⟨x0, x1, x2, x3, x4⟩ := S11.kd.c5; obtain ⟨y0, y1, y2, y3⟩ := S11.k2.c4)
  clear S10 hd10
  refine (crash_any d10 Y 0 w11 S11.hd HYW.out (by decide)).mono ?_
  rintro e w12 ⟨d12, rfl, hd12, b12⟩
  have S12 := S11.keep b12
  have hn3 : (Y.crash 0).n = 10 := HY.out.2.1
  have hs3 : secs (Y.crash 0).cur 1 8 = encoded i1 st1 j1 l1 := by
    rw [secs_ext 8 (fun i _ => HY.out.2.2.1 _), HXs.out]
  have hn3' : 1 + 8 ≤ (Y.crash 0).n := by rw [hn3]; decide
  have hs3' := hid hs3
  clear S11 b12 hn3 hs3
  generalize Y.crash 0 = Z at *
  go_wp2_with fail
  refine (pread_enc d12 Z 1 w12 i1 st1 j1 l1 (hT.keep S12.b) hd12 hn3' hs3'.out a1 a2 (by rw [HL1.out]; exact a3) hs1).mono ?_
  rintro e w13 ⟨p13, rfl, hp13, b13⟩
  have S13 := S12.keep b13
  clear S12 b13 hn3' hs3' hd12
  obtain ⟨x0, x1, x2, x3, x4⟩ := S13.kd.c5
  have hz := S13.kd.lt
  simp only [Pg.v, pageV]
  go_wp2_with fail
  have hP : Blk (w13.alloc (.cells #[.int .i64 p13.id, .int .u64 p13.stamp, .int .i64 p13.kind, .slice p13.A p13.n p13.c] 25)) w13.heap.size 25 [.int .i64 p13.id, .int .u64 p13.stamp, .int .i64 p13.kind, .slice p13.A p13.n p13.c] := Blk.new w13 _ _
  have hB : Below w13.heap.size w13 (w13.alloc (.cells #[.int .i64 p13.id, .int .u64 p13.stamp, .int .i64 p13.kind, .slice p13.A p13.n p13.c] 25)) := (Below.refl _ _).alloc (Nat.le_refl _) _
  have hS : (w13.alloc (.cells #[.int .i64 p13.id, .int .u64 p13.stamp, .int .i64 p13.kind, .slice p13.A p13.n p13.c] 25)).heap.size = w13.heap.size + 1 := by simp
  generalize (w13.alloc (.cells #[.int .i64 p13.id, .int .u64 p13.stamp, .int .i64 p13.kind, .slice p13.A p13.n p13.c] 25)) = w14 at hP hB hS ⊢
  have S14 := S13.keep hB
  have hp14 := hp13.below hB
  clear S13 hp13 hB hS x0 x1 x2 x3 x4 hz
  refine (crash_any d10 Y 3280 w14 S14.hd HYW.out (by decide)).mono ?_
  rintro e w15 ⟨d15, rfl, hd15, b15⟩
  have S15 := S14.keep b15
  have hn3 : (Y.crash 3280).n = 10 := HY.out.2.1
  have hs3 : secs (Y.crash 3280).cur 1 8 = encoded i2 st2 j2 l2 := by
    rw [secs_ext 8 (fun i _ => HY.out.2.2.2 _), HY.out.1]
  have hn3' : 1 + 8 ≤ (Y.crash 3280).n := by rw [hn3]; decide
  have hs3' := hid hs3
  clear hn3 hs3
  generalize Y.crash 3280 = Z at *
  go_wp2_with fail
  refine (pread_enc d15 Z 1 w15 i2 st2 j2 l2 (hT.keep S15.b) hd15 hn3' hs3'.out e1 e2 (by rw [HL2.out]; exact e3) hs2).mono ?_
  rintro e w16 ⟨p16, rfl, hp16, b16⟩
  have S16 := S15.keep b16
  have kp16 := (hP.keep b15).keep b16
  have hp16' := (hp14.below b15).below b16
  clear S14 S15 b15 b16 hn3' hs3' hd15 hP hp14
  obtain ⟨x0, x1, x2, x3⟩ := S16.k1.c4
  obtain ⟨y0, y1, y2, y3⟩ := S16.k2.c4
  obtain ⟨z0, z1, z2, z3⟩ := kp16.c4
  have hz1 := S16.k1.lt
  have hz2 := S16.k2.lt
  have hz3 := kp16.lt
  simp only [Pg.v, pageV]
  go_wp2_with fail
  have hP : Blk (w16.alloc (.cells #[.int .i64 p16.id, .int .u64 p16.stamp, .int .i64 p16.kind, .slice p16.A p16.n p16.c] 25)) w16.heap.size 25 [.int .i64 p16.id, .int .u64 p16.stamp, .int .i64 p16.kind, .slice p16.A p16.n p16.c] := Blk.new w16 _ _
  have hB : Below w16.heap.size w16 (w16.alloc (.cells #[.int .i64 p16.id, .int .u64 p16.stamp, .int .i64 p16.kind, .slice p16.A p16.n p16.c] 25)) := (Below.refl _ _).alloc (Nat.le_refl _) _
  have hS : (w16.alloc (.cells #[.int .i64 p16.id, .int .u64 p16.stamp, .int .i64 p16.kind, .slice p16.A p16.n p16.c] 25)).heap.size = w16.heap.size + 1 := by simp
  generalize (w16.alloc (.cells #[.int .i64 p16.id, .int .u64 p16.stamp, .int .i64 p16.kind, .slice p16.A p16.n p16.c] 25)) = w17 at hP hB hS ⊢
  have S17 := S16.keep hB
  have hq17 := hp16.below hB
  have hr17 := hp16'.below hB
  clear S16 kp16 hp16 hp16' hB hS x0 x1 x2 x3 y0 y1 y2 y3 z0 z1 z2 z3 hz1 hz2 hz3
  have hA : Reads w17 ⟨i1, st1, j1, A1, n1, c1, l1⟩ ⟨i1, st1, j1, l1, 0⟩ := ⟨hp0.out.below S17.b, rfl, rfl, rfl, rfl⟩
  refine (same_reads p13 _ _ w17 hr17 hA).mono ?_
  rintro e w18 ⟨rfl, b18⟩
  have S18 := S17.keep b18
  have hq18 := hq17.below b18
  have hB18 : Reads w18 ⟨i2, st2, j2, A2, n2, c2, l2⟩ ⟨i2, st2, j2, l2, 0⟩ := ⟨hq0.out.below S18.b, rfl, rfl, rfl, rfl⟩
  obtain ⟨y0, y1, y2, y3⟩ := S18.k2.c4
  obtain ⟨z0, z1, z2, z3⟩ := (hP.keep b18).c4
  clear S17 hq17 hr17 hA b18 hP
  go_wp2_with fail
  refine (same_reads p16 _ _ w18 hq18 hB18).mono ?_
  rintro e w19 ⟨rfl, b19⟩
  have S19 := S18.keep b19
  go_wp2_with fail
  refine (awake_any _ (hT.keep S19.b)).mono ?_
  rintro e w20 ⟨rfl, b20⟩
  go_wp2_with fail
  go_ret
  exact ⟨rfl, S19.b.trans (b20.mono S19.b.size)⟩
end Go.Proofs.YtjaoipdmchofoaaDoor
