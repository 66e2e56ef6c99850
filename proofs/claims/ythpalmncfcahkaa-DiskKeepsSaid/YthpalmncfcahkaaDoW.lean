/- The law's do, walked: writes. Conditions: the disk and the reference's disk read. -/
import Derived.Test.YthpalmncfcahkaaDo

import Derived.BigRegion
import Derived.Test.YthpalmncfcahkaaVar
set_option linter.unusedSimpArgs false
set_option linter.unusedVariables false
namespace Go.Proofs.Ythpalmncfcahkaa
open Go.RowKit

theorem notU8 : ¬ dkT 5 := by unfold dkT; decide
theorem own_blk0 {w : World} {base : Nat} {e : TypeId} {g n c : Nat} {xs : List Value} (h : w.ownsRow base e 1 (.slice (some ⟨g, 0, none⟩) n c) n xs) : ∃ t cs, Blk w g t cs := by
  obtain ⟨_, h | ⟨g', cap, cur, h1, _, h2, _⟩⟩ := h
  · cases h.1
  · cases h1
    exact ⟨e, cur.toList, by unfold Blk; simpa using h2⟩
set_option maxRecDepth 100000 in
set_option maxHeartbeats 8000000 in
theorem do_write (N : Nat → Prop) (d : DV) (x : Rv) (a : Ac) (D X : Dk) (w : World) (hN : ∀ b, w.heap.size ≤ b → N b) (hd : DkV w d D) (hx : RefV N w x X) (hXn : X.n = D.n) (ha : a.ok) (h6 : a.act % 8 ≠ 6) (h7 : a.act % 8 ≠ 7) (hm : D.W.length ≤ 100000) (hmX : X.W.length ≤ 100000) :
    Calls Try.prog 21 #[d.v, x.v, a.v] w fun e w' => ∃ (d' : DV) (x' : Rv), e = .returned (.tuple #[d'.v, x'.v, .bool true]) ∧ DkV w' d' (doK D a) ∧ RefV N w' x' (doK X a) ∧ Below w.heap.size w w' := by
  have t1 : ((a.act : Int) % 8 == 6) = false := by rw [beq_eq_false_iff_ne]; omega
  have t2 : ((a.act : Int) % 8 == 7) = false := by rw [beq_eq_false_iff_ne]; omega
  have hdn := hd.n
  have hn := hd.hn
  have hSn := hx.s.e
  have hSc := hx.s.nc
  have hSm := hx.s.cm
  have H : (a.act % 8 = 5 ∧ a.at_ < 0) ∨ (a.act % 8 = 5 ∧ 0 ≤ a.at_ ∧ (D.n : Int) ≤ a.at_) ∨ (a.act % 8 = 5 ∧ 0 ≤ a.at_ ∧ a.at_ < D.n) ∨ (a.act % 8 ≠ 5 ∧ a.at_ < 0) ∨ (a.act % 8 ≠ 5 ∧ 0 ≤ a.at_ ∧ (D.n : Int) ≤ a.at_) ∨ (a.act % 8 ≠ 5 ∧ 0 ≤ a.at_ ∧ a.at_ < D.n) := by omega
  have hal := ha.l
  have hah := ha.h
  have HD := hid hd
  have HX := hid hx
  have HDN := hid hdn
  have HXN := hid hXn
  have HSN := hid (hSn.trans hXn)
  clear hd hx ha hdn hXn hSn
  obtain ⟨⟨SA, Sn, Sc⟩, ⟨WA, Wn, Wc⟩⟩ := x
  obtain ⟨act, at_, aa, bb, ch⟩ := a
  dsimp only at *
  have h67 := hid (And.intro h6 h7)
  clear h6 h7
  simp only [DV.v, Rv.v, Sl.v, Ac.v]
  go_enter Try.func21, Try.ntmps21
  go_upto_region 1 with fail
  generalize hw1 : World.alloc (World.alloc (World.alloc (World.alloc (World.alloc w _) _) _) _) _ = w1
  obtain ⟨k1, k2, k3, k4, k5, hB⟩ := five_boxes (c1 := d.cs) (c2 := [.slice SA Sn Sc, .slice WA Wn Wc]) (c3 := (⟨act, at_, aa, bb, ch⟩ : Ac).cs) (c4 := DV.zero.cs) (c5 := Rv.zero.cs) hw1
  clear hw1
  obtain ⟨z0, z1, z2, z3, z4⟩ := k3.c5
  go_wp2_with fail
  refine (sector_any aa bb w1).mono ?_
  rintro e w2 ⟨v2, rfl, hown2, b2⟩
  obtain ⟨A2, c2, rfl, _, hc2, hm2⟩ := own_form hown2
  obtain ⟨gb, rfl, hgb1, _, _, _, _⟩ := own_set hown2 (k := 0) (by omega)
  have hgb2 : gb < w2.heap.size := (hown2.lt gb rfl).2
  have hg5 := k5.lt
  have K1 := k1.keep b2
  have K2 := k2.keep b2
  have K3 := k3.keep b2
  have K4 := k4.keep b2
  have K5 := k5.keep b2
  have B2 := hB.trans (b2.mono hB.size)
  have HD2 := hid (HD.out.keep B2)
  have HX2 := hid (HX.out.lt.keep B2)
  clear z0 z1 z2 z3 z4 k1 k2 k3 k4 k5 HD HX
  obtain ⟨z0, z1, z2, z3, z4⟩ := K3.c5
  obtain ⟨y0, y1⟩ := K2.c2
  obtain ⟨x0, x1, x2, x3, x4⟩ := K1.c5
  have s1 : w1.heap.size ≤ w2.heap.size := b2.size
  have s0 : w.heap.size ≤ w1.heap.size := hB.size
  obtain ⟨q, hq, HQ⟩ : ∃ q : Nat, q < 128 ∧ Hid (RowKit.wrap64 (N8 aa) = N8 aa ∧ (N8 aa).tmod 128 = (q : Int) ∧ N8 aa % 128 = (q : Int)) := ⟨aa.toNat % 128, by omega, by
    have h0 := N8_lo aa
    have h1 := N8_hi aa
    have e : N8 aa % 128 = ((aa.toNat % 128 : Nat) : Int) := by unfold N8; omega
    exact ⟨IntWalk.wrap64_in _ (by omega), by rw [Int.tmod_eq_emod_of_nonneg h0]; exact e, e⟩⟩
  rcases H with h | h | h | h | h | h
  case' inl =>
    obtain ⟨h5, hneg⟩ := h
    have t5 : ((act : Int) % 8 == 5) = true := by rw [beq_iff_eq]; omega
    obtain ⟨hq0, hq1, hq2⟩ := HQ.out
    have hq3 : (q : Int) ≤ (c2 : Int) := by omega
    have t8 : decide ((0 : Int) ≤ at_) = false := by simp; omega
    have hK : ∀ Z : Dk, Z.n = D.n → doK Z ⟨act, at_, aa, bb, ch⟩ = Z := fun Z hZ => by unfold doK; rw [if_neg h67.out.1, if_neg h67.out.2]; rw [if_pos h5]
    have HK := hid hK
    clear hK h5
    go_wp2_with fail
    have W1 := write_bad d (some ⟨gb, 0, none⟩) q c2 at_ w2 (by have := HDN.out; omega)
    simp only [DV.v] at W1
    refine W1.mono ?_
    clear W1
    rintro e w3 ⟨rfl, b3⟩
    obtain ⟨nx, rfl⟩ : ∃ z, z = d := ⟨_, rfl⟩
    have hnx : DkV w3 nx (doK D ⟨act, at_, aa, bb, ch⟩) := by rw [HK.out D rfl]; exact HD2.out.keep b3
    have own3 := own_below hown2 b3
    have L1 := K1.keep b3
    have L2 := K2.keep b3
    have L3 := K3.keep b3
    have L4 := K4.keep b3
    have L5 := K5.keep b3
    have B3 := B2.trans (b3.mono B2.size)
    have hX3 := HX2.out.keep b3
    have s2 : w2.heap.size ≤ w3.heap.size := b3.size
    clear z0 z1 z2 z3 z4 y0 y1 x0 x1 x2 x3 x4 K1 K2 K3 K4 K5 HD2 HX2 hown2
    obtain ⟨z0, z1, z2, z3, z4⟩ := L3.c5
    obtain ⟨y0, y1⟩ := L2.c2
    have hlg := L5.lt
    go_wp2_with fail
    have hP0 := Blk.new w3 25 [.int .i64 nx.n, .pointer nx.s, .pointer nx.c, .pointer nx.l, .int .i64 nx.m]
    have hB0 : Below w3.heap.size w3 (w3.alloc (.cells #[.int .i64 nx.n, .pointer nx.s, .pointer nx.c, .pointer nx.l, .int .i64 nx.m] 25)) := (Below.refl _ _).alloc (Nat.le_refl _) _
    generalize (w3.alloc (.cells #[.int .i64 nx.n, .pointer nx.s, .pointer nx.c, .pointer nx.l, .int .i64 nx.m] 25)) = w6 at hP0 hB0 ⊢
    obtain ⟨xr, hxr0⟩ : ∃ z : Rv, z = ⟨⟨SA, Sn, Sc⟩, ⟨WA, Wn, Wc⟩⟩ := ⟨_, rfl⟩
    have m2 : Blk w6 (w.heap.size + 1) 48 xr.cs := by rw [hxr0]; exact L2.keep hB0
    have m4 := L4.keep hB0
    have m5 := L5.keep hB0
    have mn := hP0
    have own6 := own_below own3 hB0
    have hn6 := hnx.keep hB0
    have B6 := B3.trans (hB0.mono B3.size)
    have hx6 : RefV (fun b => N b ∧ (b < w.heap.size ∨ w3.heap.size < b)) w6 xr (doK X ⟨act, at_, aa, bb, ch⟩) := by
      rw [HK.out X HXN.out, hxr0]
      exact (hX3.keep hB0).mono (fun b hb => ⟨hb.1, .inl hb.2⟩)
    clear z0 z1 z2 z3 z4 y0 y1 L1 L2 L3 L4 L5 hP0 hnx own3 hB0 hX3
    obtain ⟨bn, hbn, hbe⟩ : ∃ bn : Nat, bn ≤ 128 ∧ bn = q := ⟨q, by omega, rfl⟩
  case' inr.inl =>
    obtain ⟨h5, hpos, hat⟩ := h
    have t5 : ((act : Int) % 8 == 5) = true := by rw [beq_iff_eq]; omega
    obtain ⟨hq0, hq1, hq2⟩ := HQ.out
    have hq3 : (q : Int) ≤ (c2 : Int) := by omega
    have t8 : decide ((0 : Int) ≤ at_) = true := by simp; omega
    have t9 : decide (at_ < (Sn : Int)) = false := by simp; have := HSN.out; omega
    have hK : ∀ Z : Dk, Z.n = D.n → doK Z ⟨act, at_, aa, bb, ch⟩ = Z := fun Z hZ => by unfold doK; rw [if_neg h67.out.1, if_neg h67.out.2]; rw [if_pos h5]
    have HK := hid hK
    clear hK h5
    go_wp2_with fail
    have W1 := write_bad d (some ⟨gb, 0, none⟩) q c2 at_ w2 (by have := HDN.out; omega)
    simp only [DV.v] at W1
    refine W1.mono ?_
    clear W1
    rintro e w3 ⟨rfl, b3⟩
    obtain ⟨nx, rfl⟩ : ∃ z, z = d := ⟨_, rfl⟩
    have hnx : DkV w3 nx (doK D ⟨act, at_, aa, bb, ch⟩) := by rw [HK.out D rfl]; exact HD2.out.keep b3
    have own3 := own_below hown2 b3
    have L1 := K1.keep b3
    have L2 := K2.keep b3
    have L3 := K3.keep b3
    have L4 := K4.keep b3
    have L5 := K5.keep b3
    have B3 := B2.trans (b3.mono B2.size)
    have hX3 := HX2.out.keep b3
    have s2 : w2.heap.size ≤ w3.heap.size := b3.size
    clear z0 z1 z2 z3 z4 y0 y1 x0 x1 x2 x3 x4 K1 K2 K3 K4 K5 HD2 HX2 hown2
    obtain ⟨z0, z1, z2, z3, z4⟩ := L3.c5
    obtain ⟨y0, y1⟩ := L2.c2
    have hlg := L5.lt
    go_wp2_with fail
    have hP0 := Blk.new w3 25 [.int .i64 nx.n, .pointer nx.s, .pointer nx.c, .pointer nx.l, .int .i64 nx.m]
    have hB0 : Below w3.heap.size w3 (w3.alloc (.cells #[.int .i64 nx.n, .pointer nx.s, .pointer nx.c, .pointer nx.l, .int .i64 nx.m] 25)) := (Below.refl _ _).alloc (Nat.le_refl _) _
    generalize (w3.alloc (.cells #[.int .i64 nx.n, .pointer nx.s, .pointer nx.c, .pointer nx.l, .int .i64 nx.m] 25)) = w6 at hP0 hB0 ⊢
    obtain ⟨xr, hxr0⟩ : ∃ z : Rv, z = ⟨⟨SA, Sn, Sc⟩, ⟨WA, Wn, Wc⟩⟩ := ⟨_, rfl⟩
    have m2 : Blk w6 (w.heap.size + 1) 48 xr.cs := by rw [hxr0]; exact L2.keep hB0
    have m4 := L4.keep hB0
    have m5 := L5.keep hB0
    have mn := hP0
    have own6 := own_below own3 hB0
    have hn6 := hnx.keep hB0
    have B6 := B3.trans (hB0.mono B3.size)
    have hx6 : RefV (fun b => N b ∧ (b < w.heap.size ∨ w3.heap.size < b)) w6 xr (doK X ⟨act, at_, aa, bb, ch⟩) := by
      rw [HK.out X HXN.out, hxr0]
      exact (hX3.keep hB0).mono (fun b hb => ⟨hb.1, .inl hb.2⟩)
    clear z0 z1 z2 z3 z4 y0 y1 L1 L2 L3 L4 L5 hP0 hnx own3 hB0 hX3
    obtain ⟨bn, hbn, hbe⟩ : ∃ bn : Nat, bn ≤ 128 ∧ bn = q := ⟨q, by omega, rfl⟩
  case' inr.inr.inl =>
    obtain ⟨h5, hpos, hat⟩ := h
    have t5 : ((act : Int) % 8 == 5) = true := by rw [beq_iff_eq]; omega
    obtain ⟨hq0, hq1, hq2⟩ := HQ.out
    have hq3 : (q : Int) ≤ (c2 : Int) := by omega
    obtain ⟨i, rfl⟩ : ∃ i : Nat, at_ = i := ⟨at_.toNat, by omega⟩
    have hi : i < D.n := by omega
    have t9 : decide (i < Sn) = true := by simp; have := HSN.out; omega
    have hK : ∀ Z : Dk, Z.n = D.n → doK Z ⟨act, i, aa, bb, ch⟩ = Z := fun Z hZ => by unfold doK; rw [if_neg h67.out.1, if_neg h67.out.2, if_pos h5]
    have HK := hid hK
    clear hK h5
    go_wp2_with fail
    have W1 := write_arg d (some ⟨gb, 0, none⟩) q c2 i w2 (by rw [HDN.out]; exact hi) (by omega)
    simp only [DV.v] at W1
    refine W1.mono ?_
    clear W1
    rintro e w3 ⟨rfl, b3⟩
    obtain ⟨nx, rfl⟩ : ∃ z, z = d := ⟨_, rfl⟩
    have hnx : DkV w3 nx (doK D ⟨act, i, aa, bb, ch⟩) := by rw [HK.out D rfl]; exact HD2.out.keep b3
    have own3 := own_below hown2 b3
    have L1 := K1.keep b3
    have L2 := K2.keep b3
    have L3 := K3.keep b3
    have L4 := K4.keep b3
    have L5 := K5.keep b3
    have B3 := B2.trans (b3.mono B2.size)
    have hX3 := HX2.out.keep b3
    have s2 : w2.heap.size ≤ w3.heap.size := b3.size
    clear z0 z1 z2 z3 z4 y0 y1 x0 x1 x2 x3 x4 K1 K2 K3 K4 K5 HD2 HX2 hown2
    obtain ⟨z0, z1, z2, z3, z4⟩ := L3.c5
    obtain ⟨y0, y1⟩ := L2.c2
    have hlg := L5.lt
    go_wp2_with fail
    have hP0 := Blk.new w3 25 [.int .i64 nx.n, .pointer nx.s, .pointer nx.c, .pointer nx.l, .int .i64 nx.m]
    have hB0 : Below w3.heap.size w3 (w3.alloc (.cells #[.int .i64 nx.n, .pointer nx.s, .pointer nx.c, .pointer nx.l, .int .i64 nx.m] 25)) := (Below.refl _ _).alloc (Nat.le_refl _) _
    generalize (w3.alloc (.cells #[.int .i64 nx.n, .pointer nx.s, .pointer nx.c, .pointer nx.l, .int .i64 nx.m] 25)) = w6 at hP0 hB0 ⊢
    obtain ⟨xr, hxr0⟩ : ∃ z : Rv, z = ⟨⟨SA, Sn, Sc⟩, ⟨WA, Wn, Wc⟩⟩ := ⟨_, rfl⟩
    have m2 : Blk w6 (w.heap.size + 1) 48 xr.cs := by rw [hxr0]; exact L2.keep hB0
    have m4 := L4.keep hB0
    have m5 := L5.keep hB0
    have mn := hP0
    have own6 := own_below own3 hB0
    have hn6 := hnx.keep hB0
    have B6 := B3.trans (hB0.mono B3.size)
    have hx6 : RefV (fun b => N b ∧ (b < w.heap.size ∨ w3.heap.size < b)) w6 xr (doK X ⟨act, i, aa, bb, ch⟩) := by
      rw [HK.out X HXN.out, hxr0]
      exact (hX3.keep hB0).mono (fun b hb => ⟨hb.1, .inl hb.2⟩)
    clear z0 z1 z2 z3 z4 y0 y1 L1 L2 L3 L4 L5 hP0 hnx own3 hB0 hX3
    obtain ⟨bn, hbn, hbe⟩ : ∃ bn : Nat, bn ≤ 128 ∧ bn = q := ⟨q, by omega, rfl⟩
  case' inr.inr.inr.inl =>
    obtain ⟨h5, hneg⟩ := h
    have t5 : ((act : Int) % 8 == 5) = false := by rw [beq_eq_false_iff_ne]; omega
    have t8 : decide ((0 : Int) ≤ at_) = false := by simp; omega
    have hK : ∀ Z : Dk, Z.n = D.n → doK Z ⟨act, at_, aa, bb, ch⟩ = Z := fun Z hZ => by unfold doK; rw [if_neg h67.out.1, if_neg h67.out.2]; rw [if_neg h5, if_neg (by rintro ⟨h1, _⟩; dsimp only at h1; omega)]
    have HK := hid hK
    clear hK h5
    go_wp2_with fail
    have W1 := write_bad d (some ⟨gb, 0, none⟩) 128 c2 at_ w2 (by have := HDN.out; omega)
    simp only [DV.v] at W1
    refine W1.mono ?_
    clear W1
    rintro e w3 ⟨rfl, b3⟩
    obtain ⟨nx, rfl⟩ : ∃ z, z = d := ⟨_, rfl⟩
    have hnx : DkV w3 nx (doK D ⟨act, at_, aa, bb, ch⟩) := by rw [HK.out D rfl]; exact HD2.out.keep b3
    have own3 := own_below hown2 b3
    have L1 := K1.keep b3
    have L2 := K2.keep b3
    have L3 := K3.keep b3
    have L4 := K4.keep b3
    have L5 := K5.keep b3
    have B3 := B2.trans (b3.mono B2.size)
    have hX3 := HX2.out.keep b3
    have s2 : w2.heap.size ≤ w3.heap.size := b3.size
    clear z0 z1 z2 z3 z4 y0 y1 x0 x1 x2 x3 x4 K1 K2 K3 K4 K5 HD2 HX2 hown2
    obtain ⟨z0, z1, z2, z3, z4⟩ := L3.c5
    obtain ⟨y0, y1⟩ := L2.c2
    have hlg := L5.lt
    go_wp2_with fail
    have hP0 := Blk.new w3 25 [.int .i64 nx.n, .pointer nx.s, .pointer nx.c, .pointer nx.l, .int .i64 nx.m]
    have hB0 : Below w3.heap.size w3 (w3.alloc (.cells #[.int .i64 nx.n, .pointer nx.s, .pointer nx.c, .pointer nx.l, .int .i64 nx.m] 25)) := (Below.refl _ _).alloc (Nat.le_refl _) _
    generalize (w3.alloc (.cells #[.int .i64 nx.n, .pointer nx.s, .pointer nx.c, .pointer nx.l, .int .i64 nx.m] 25)) = w6 at hP0 hB0 ⊢
    obtain ⟨xr, hxr0⟩ : ∃ z : Rv, z = ⟨⟨SA, Sn, Sc⟩, ⟨WA, Wn, Wc⟩⟩ := ⟨_, rfl⟩
    have m2 : Blk w6 (w.heap.size + 1) 48 xr.cs := by rw [hxr0]; exact L2.keep hB0
    have m4 := L4.keep hB0
    have m5 := L5.keep hB0
    have mn := hP0
    have own6 := own_below own3 hB0
    have hn6 := hnx.keep hB0
    have B6 := B3.trans (hB0.mono B3.size)
    have hx6 : RefV (fun b => N b ∧ (b < w.heap.size ∨ w3.heap.size < b)) w6 xr (doK X ⟨act, at_, aa, bb, ch⟩) := by
      rw [HK.out X HXN.out, hxr0]
      exact (hX3.keep hB0).mono (fun b hb => ⟨hb.1, .inl hb.2⟩)
    clear z0 z1 z2 z3 z4 y0 y1 L1 L2 L3 L4 L5 hP0 hnx own3 hB0 hX3
    obtain ⟨bn, hbn, hbe⟩ : ∃ bn : Nat, bn ≤ 128 ∧ bn = 128 := ⟨128, by omega, rfl⟩
  case' inr.inr.inr.inr.inl =>
    obtain ⟨h5, hpos, hat⟩ := h
    have t5 : ((act : Int) % 8 == 5) = false := by rw [beq_eq_false_iff_ne]; omega
    have t8 : decide ((0 : Int) ≤ at_) = true := by simp; omega
    have t9 : decide (at_ < (Sn : Int)) = false := by simp; have := HSN.out; omega
    have hK : ∀ Z : Dk, Z.n = D.n → doK Z ⟨act, at_, aa, bb, ch⟩ = Z := fun Z hZ => by unfold doK; rw [if_neg h67.out.1, if_neg h67.out.2]; rw [if_neg h5, if_neg (by rintro ⟨_, h2⟩; dsimp only at h2; omega)]
    have HK := hid hK
    clear hK h5
    go_wp2_with fail
    have W1 := write_bad d (some ⟨gb, 0, none⟩) 128 c2 at_ w2 (by have := HDN.out; omega)
    simp only [DV.v] at W1
    refine W1.mono ?_
    clear W1
    rintro e w3 ⟨rfl, b3⟩
    obtain ⟨nx, rfl⟩ : ∃ z, z = d := ⟨_, rfl⟩
    have hnx : DkV w3 nx (doK D ⟨act, at_, aa, bb, ch⟩) := by rw [HK.out D rfl]; exact HD2.out.keep b3
    have own3 := own_below hown2 b3
    have L1 := K1.keep b3
    have L2 := K2.keep b3
    have L3 := K3.keep b3
    have L4 := K4.keep b3
    have L5 := K5.keep b3
    have B3 := B2.trans (b3.mono B2.size)
    have hX3 := HX2.out.keep b3
    have s2 : w2.heap.size ≤ w3.heap.size := b3.size
    clear z0 z1 z2 z3 z4 y0 y1 x0 x1 x2 x3 x4 K1 K2 K3 K4 K5 HD2 HX2 hown2
    obtain ⟨z0, z1, z2, z3, z4⟩ := L3.c5
    obtain ⟨y0, y1⟩ := L2.c2
    have hlg := L5.lt
    go_wp2_with fail
    have hP0 := Blk.new w3 25 [.int .i64 nx.n, .pointer nx.s, .pointer nx.c, .pointer nx.l, .int .i64 nx.m]
    have hB0 : Below w3.heap.size w3 (w3.alloc (.cells #[.int .i64 nx.n, .pointer nx.s, .pointer nx.c, .pointer nx.l, .int .i64 nx.m] 25)) := (Below.refl _ _).alloc (Nat.le_refl _) _
    generalize (w3.alloc (.cells #[.int .i64 nx.n, .pointer nx.s, .pointer nx.c, .pointer nx.l, .int .i64 nx.m] 25)) = w6 at hP0 hB0 ⊢
    obtain ⟨xr, hxr0⟩ : ∃ z : Rv, z = ⟨⟨SA, Sn, Sc⟩, ⟨WA, Wn, Wc⟩⟩ := ⟨_, rfl⟩
    have m2 : Blk w6 (w.heap.size + 1) 48 xr.cs := by rw [hxr0]; exact L2.keep hB0
    have m4 := L4.keep hB0
    have m5 := L5.keep hB0
    have mn := hP0
    have own6 := own_below own3 hB0
    have hn6 := hnx.keep hB0
    have B6 := B3.trans (hB0.mono B3.size)
    have hx6 : RefV (fun b => N b ∧ (b < w.heap.size ∨ w3.heap.size < b)) w6 xr (doK X ⟨act, at_, aa, bb, ch⟩) := by
      rw [HK.out X HXN.out, hxr0]
      exact (hX3.keep hB0).mono (fun b hb => ⟨hb.1, .inl hb.2⟩)
    clear z0 z1 z2 z3 z4 y0 y1 L1 L2 L3 L4 L5 hP0 hnx own3 hB0 hX3
    obtain ⟨bn, hbn, hbe⟩ : ∃ bn : Nat, bn ≤ 128 ∧ bn = 128 := ⟨128, by omega, rfl⟩
  case' inr.inr.inr.inr.inr =>
    obtain ⟨h5, hpos, hat⟩ := h
    have t5 : ((act : Int) % 8 == 5) = false := by rw [beq_eq_false_iff_ne]; omega
    obtain ⟨i, rfl⟩ : ∃ i : Nat, at_ = i := ⟨at_.toNat, by omega⟩
    have hi : i < D.n := by omega
    have t9 : decide (i < Sn) = true := by simp; have := HSN.out; omega
    have hK : ∀ Z : Dk, Z.n = D.n → doK Z ⟨act, i, aa, bb, ch⟩ = Z.write i (sect aa bb) := fun Z hZ => by unfold doK; rw [if_neg h67.out.1, if_neg h67.out.2, if_neg h5, if_pos ⟨by show (0 : Int) ≤ i; omega, by show (i : Int) < Z.n; omega⟩]; rfl
    have HK := hid hK
    clear hK h5
    go_wp2_with fail
    have W1 := write_good d D (some ⟨gb, 0, none⟩) c2 (sect aa bb) i w2 HD2.out hi (RL.of_own hown2) (by omega)
    simp only [DV.v] at W1
    refine W1.mono ?_
    clear W1
    rintro e w3 ⟨nx, rfl, hnx0, b3⟩
    have hnx : DkV w3 nx (doK D ⟨act, i, aa, bb, ch⟩) := by rw [HK.out D rfl]; exact hnx0
    clear hnx0
    have own3 := own_below hown2 b3
    have L1 := K1.keep b3
    have L2 := K2.keep b3
    have L3 := K3.keep b3
    have L4 := K4.keep b3
    have L5 := K5.keep b3
    have B3 := B2.trans (b3.mono B2.size)
    have hX3 := HX2.out.keep b3
    have s2 : w2.heap.size ≤ w3.heap.size := b3.size
    clear z0 z1 z2 z3 z4 y0 y1 x0 x1 x2 x3 x4 K1 K2 K3 K4 K5 HD2 HX2 hown2
    obtain ⟨z0, z1, z2, z3, z4⟩ := L3.c5
    obtain ⟨y0, y1⟩ := L2.c2
    have hlg := L5.lt
    have hlg1 := L2.lt
    have hlg2 := L3.lt
    go_wp2_with fail
    have hP : Blk (w3.alloc (.cells #[.int .i64 nx.n, .pointer nx.s, .pointer nx.c, .pointer nx.l, .int .i64 nx.m] 25)) w3.heap.size 25 [.int .i64 nx.n, .pointer nx.s, .pointer nx.c, .pointer nx.l, .int .i64 nx.m] := Blk.new w3 _ _
    have hB : Below w3.heap.size w3 (w3.alloc (.cells #[.int .i64 nx.n, .pointer nx.s, .pointer nx.c, .pointer nx.l, .int .i64 nx.m] 25)) := (Below.refl _ _).alloc (Nat.le_refl _) _
    have hS : (w3.alloc (.cells #[.int .i64 nx.n, .pointer nx.s, .pointer nx.c, .pointer nx.l, .int .i64 nx.m] 25)).heap.size = w3.heap.size + 1 := by simp
    generalize (w3.alloc (.cells #[.int .i64 nx.n, .pointer nx.s, .pointer nx.c, .pointer nx.l, .int .i64 nx.m] 25)) = w4 at hP hB hS ⊢
    have P1 := refPut_any (fun b => N b ∧ (b < w.heap.size ∨ w3.heap.size < b)) ⟨⟨SA, Sn, Sc⟩, ⟨WA, Wn, Wc⟩⟩ X i ⟨some ⟨gb, 0, none⟩, 128, c2⟩ (sect aa bb) w4 (fun b hb => ⟨hN b (by omega), .inr (by omega)⟩) ((hX3.keep hB).mono (fun b hb => ⟨hb.1, .inl hb.2⟩)) (RL.of_own (own_below own3 hB)) (sect_len aa bb) (by rw [HXN.out]; exact hi) (by omega)
    simp only [Rv.v, Sl.v] at P1
    refine P1.mono ?_
    clear P1
    rintro e w5 ⟨xr, rfl, hxr, b5⟩
    have M2 := (L2.keep hB).keep b5
    have M4 := (L4.keep hB).keep b5
    have M5 := (L5.keep hB).keep b5
    have Mn := hP.keep b5
    have own5 := own_below (own_below own3 hB) b5
    have hn5 := (hnx.keep hB).keep b5
    have B5 := (B3.trans (hB.mono B3.size)).trans (b5.mono (B3.trans (hB.mono B3.size)).size)
    clear z0 z1 z2 z3 z4 y0 y1 L1 L2 L3 L4 L5 hP hnx own3
    go_wp2_with ((with_reducible refine is_store 48 ?_); refine wp_storeB (w.heap.size + 1) _ _ xr.cs M2 refN rfl (rv_one _) rfl rfl ?_; intro w6 m2 r6; go_frame)
    have m4 := M4.grown r6 (by simp)
    have m5 := M5.grown r6 (by simp)
    have mn := Mn.grown r6 (by simp; omega)
    have own6 := own5.kept r6 (.inr (by simp [Value.ownBlock]; omega))
    have hn6 := hn5.kept (Kept.grown r6 M2 notDkR)
    have B6 := B5.grown r6 B5.size (fun g hg => by cases hg; omega)
    have hx6 : RefV (fun b => N b ∧ (b < w.heap.size ∨ w3.heap.size < b)) w6 xr (doK X ⟨act, i, aa, bb, ch⟩) := by
      rw [HK.out X HXN.out]
      exact hxr.grown r6 (fun g hg hq => by cases hg; omega)
    clear M2 M4 M5 Mn own5 hn5 B5 hxr r6
    obtain ⟨bn, hbn, hbe⟩ : ∃ bn : Nat, bn ≤ 128 ∧ bn = 128 := ⟨128, by omega, rfl⟩
  all_goals (
    rw [← hbe]
    have hgn : w3.heap.size < w6.heap.size := mn.lt
    go_loopw [14, 82] (fun _ i wr => ∃ (k : Nat) (ys : List Value), k ≤ bn ∧ i = .int .i64 k ∧ wr.ownsRow w1.heap.size 5 1 (.slice (some ⟨gb, 0, none⟩) 128 c2) 128 ys ∧ (∀ u ∈ ys, ∃ z, u = byV z) ∧ Blk wr (w.heap.size + 1) 48 xr.cs ∧ Blk wr (w.heap.size + 3) 25 DV.zero.cs ∧ Blk wr (w.heap.size + 4) 48 Rv.zero.cs ∧ Blk wr w3.heap.size 25 [.int .i64 nx.n, .pointer nx.s, .pointer nx.c, .pointer nx.l, .int .i64 nx.m] ∧ DkV wr nx (doK D _) ∧ RefV (fun b => N b ∧ (b < w.heap.size ∨ w3.heap.size < b)) wr xr (doK X _) ∧ Below w.heap.size w wr) (fun _ i _ => bn - (intOf i).toNat)
    case atStart => exact ⟨0, _, Nat.zero_le _, rfl, own6, fun u hu => by obtain ⟨z, _, rfl⟩ := List.mem_map.1 hu; exact ⟨z, rfl⟩, m2, m4, m5, mn, hn6, hx6, B6⟩
    case round =>
      obtain ⟨k, ys, hk, rfl, own7, hys, m27, m47, m57, mn7, hn7, hx7, B7⟩ := hrel
      clear own6 m2 m4 m5 mn hn6 hx6 B6
      by_cases hlt : k < bn
      · obtain ⟨g', hA', _, hgl, hc7, hf7, hset⟩ := own_set own7 (k := k) (by omega)
        cases hA'
        obtain ⟨u7, hu7⟩ : ∃ u, ys[k]? = some u := ⟨_, List.getElem?_eq_getElem (by have := own7.1; omega)⟩
        have hc7' := hc7.trans hu7
        clear hc7
        have hkb := own_blk0 own7
        obtain ⟨tb, csb, hkb⟩ := hkb
        obtain ⟨own8, g8⟩ := hset (.int .u8 77)
        go_wp2_with fail
        have m28 := m27.grown g8 (by simp; omega)
        have m48 := m47.grown g8 (by simp; omega)
        have m58 := m57.grown g8 (by simp; omega)
        have mn8 := mn7.grown g8 (by simp; omega)
        have hn8 := hn7.kept (Kept.own own7 g8 notU8)
        have hx8 := hx7.grown g8 (fun g hg hq => by cases hg; omega)
        have B8 := B7.grown g8 B7.size (fun g hg => by cases hg; omega)
        have hys8 : ∀ u ∈ ys.set k (.int .u8 77), ∃ z, u = byV z := fun u hu => by
          rcases List.mem_or_eq_of_mem_set hu with hu | rfl
          · exact hys u hu
          · exact ⟨77, rfl⟩
        clear m27 m47 m57 mn7 hn7 hx7 B7 hset hf7 hc7' hu7
        go_roundw
        case rel => exact ⟨k + 1, _, by omega, by go_num, own8, hys8, m28, m48, m58, mn8, hn8, hx8, B8⟩
        case measure => simp [intOf]; omega
      · obtain rfl : k = bn := by omega
        obtain ⟨x0, x1, x2, x3, x4⟩ := mn7.c5
        obtain ⟨y0, y1⟩ := (show Blk wr (w.heap.size + 1) 48 [.slice xr.S.A xr.S.n xr.S.c, .slice xr.W.A xr.W.n xr.W.c] from m27).c2
        obtain ⟨p0, p1, p2, p3, p4⟩ := m47.c5
        have pf := m47.fz
        obtain ⟨q0, q1⟩ := m57.c2
        have qf := m57.fz
        have hl1 := m57.lt
        have hl2 := mn7.lt
        try clear hxr0
        have mA := (show Blk wr (w.heap.size + 1 + 1 + 1) 25 DV.zero.cs from m47)
        have mB := (show Blk wr (w.heap.size + 1 + 1 + 1 + 1) 48 Rv.zero.cs from m57)
        have hS := set5 mA rfl (.int .i64 nx.n) (.pointer nx.s) (.pointer nx.c) (.pointer nx.l) (.int .i64 nx.m)
        have kB := mB.grown hS.2 (by simp)
        have hS2 := set2 kB rfl (.slice xr.S.A xr.S.n xr.S.c) (.slice xr.W.A xr.W.n xr.W.c)
        have r4 := hS.1.grown hS2.2 (by simp)
        have r5 := hS2.1
        have hn9 := (hn7.kept (Kept.grown hS.2 mA notDk)).kept (Kept.grown hS2.2 kB notDkR)
        have hx9 := (hx7.grown hS.2 (fun g hg hq => by cases hg; omega)).grown hS2.2 (fun g hg hq => by cases hg; omega)
        have B9 := (B7.grown hS.2 B7.size (fun g hg => by cases hg; omega)).grown hS2.2 (by have := hS.2.size; have := B7.size; omega) (fun g hg => by cases hg; omega)
        have HZ := hid (And.intro r4 (And.intro r5 (And.intro hn9 (And.intro hx9 B9))))
        have k5' := m57.grown (set5 m47 rfl (.int .i64 nx.n) (.pointer nx.s) (.pointer nx.c) (.pointer nx.l) (.int .i64 nx.m)).2 (by simp)
        clear hS hS2 r4 r5 kB mA mB hn9 hx9 B9
        obtain ⟨q0', q1'⟩ := k5'.c2
        have qf' := k5'.fz
        go_wp2_with fail
        go_region
        clear q0' q1' qf' k5' x0 x1 x2 x3 x4 y0 y1 p0 p1 p2 p3 p4 pf q0 q1 qf m27 m47 m57 mn7 hn7 hx7 own7 B7
        obtain ⟨r4, r5, hn9, hx9, B9⟩ := HZ.out
        clear HZ
        generalize World.setCell (World.setCell (World.setCell (World.setCell (World.setCell (World.setCell (World.setCell wr _ _) _ _) _ _) _ _) _ _) _ _) _ _ = w9 at *
        have r4' := (show Blk w9.drew _ _ _ from r4)
        have r5' := (show Blk w9.drew _ _ _ from r5)
        obtain ⟨a0, a1, a2, a3, a4⟩ := r4'.c5
        obtain ⟨b0, b1⟩ := r5'.c2
        go_wp2_with fail
        refine bodyPost_ret (v := .tuple #[nx.v, xr.v, .bool true]) (by simp [results, Try.results21, go_sem, a0, a1, a2, a3, a4, b0, b1]; exact ⟨rfl, rfl⟩) rfl ⟨nx, xr, rfl, hn9.keep (Below.refl _ _).drew, (hx9.keep (Below.refl _ _).drew).mono (fun b hb => hb.1), B9.drew⟩)
end Go.Proofs.Ythpalmncfcahkaa
