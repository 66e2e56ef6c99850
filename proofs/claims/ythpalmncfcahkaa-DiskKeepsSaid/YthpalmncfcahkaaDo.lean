/- The law's do, walked: syncs and crashes. Conditions: the disk and the reference's disk read. -/
import Derived.Test.YthpalmncfcahkaaIs
import Derived.Test.YthpalmncfcahkaaVar
import Derived.Deep.RegionHeld3
import Derived.Deep.Cut
import Derived.Deep.DeepCutAuto
set_option linter.unusedSimpArgs false
set_option linter.unusedVariables false
namespace Go.Proofs.Ythpalmncfcahkaa
open Go.RowKit

/-- an act -/
structure Ac where
  (act : Nat) (at_ : Int) (a b : UInt8) (ch : Nat)
def Ac.cs (x : Ac) : List Value := [.int .u8 x.act, .int .i16 x.at_, .int .u8 (N8 x.a), .int .u8 (N8 x.b), .int .u64 x.ch]
def Ac.v (x : Ac) : Value := .agg #[.int .u8 x.act, .int .i16 x.at_, .int .u8 (N8 x.a), .int .u8 (N8 x.b), .int .u64 x.ch]
structure Ac.ok (x : Ac) : Prop where
  act : x.act ≤ 255
  l : -32768 ≤ x.at_
  h : x.at_ ≤ 32767
  ch : x.ch < 18446744073709551616
/-- what an act does -/
def doK (D : Dk) (x : Ac) : Dk :=
  if x.act % 8 = 6 then D.sync else if x.act % 8 = 7 then D.crash x.ch else if x.act % 8 = 5 then D else if 0 ≤ x.at_ ∧ x.at_ < D.n then D.write x.at_.toNat (sect x.a x.b) else D
theorem doK_n (D : Dk) (x : Ac) : (doK D x).n = D.n := by
  unfold doK
  repeat' split
  all_goals rfl
theorem doK_W (D : Dk) (x : Ac) : (doK D x).W.length ≤ D.W.length + 1 := by
  unfold doK
  repeat' split
  all_goals simp [Dk.sync, Dk.crash, Dk.write]

theorem notDkR : ¬ dkT 48 := by unfold dkT; decide
/-- the five variables of do -/
structure B5 (w0 w : World) (d : DV) (x : Rv) (a : Ac) : Prop where
  d : Blk w w0.heap.size 25 d.cs
  x : Blk w (w0.heap.size + 1) 48 x.cs
  a : Blk w (w0.heap.size + 2) 53 a.cs
  r : Blk w (w0.heap.size + 3) 25 DV.zero.cs
  q : Blk w (w0.heap.size + 4) 48 Rv.zero.cs
  b : Below w0.heap.size w0 w
theorem B5.keep {w0 w w' : World} {d : DV} {x : Rv} {a : Ac} (h : B5 w0 w d x a) (hb : Below w.heap.size w w') : B5 w0 w' d x a :=
  ⟨h.d.keep hb, h.x.keep hb, h.a.keep hb, h.r.keep hb, h.q.keep hb, h.b.trans (hb.mono h.b.size)⟩
theorem five_boxes {w w5 : World} {T1 T2 T3 T4 T5 : TypeId} {c1 c2 c3 c4 c5 : List Value} (e : ((((w.alloc (.cells c1.toArray T1)).alloc (.cells c2.toArray T2)).alloc (.cells c3.toArray T3)).alloc (.cells c4.toArray T4)).alloc (.cells c5.toArray T5) = w5) :
    Blk w5 w.heap.size T1 c1 ∧ Blk w5 (w.heap.size + 1) T2 c2 ∧ Blk w5 (w.heap.size + 2) T3 c3 ∧ Blk w5 (w.heap.size + 3) T4 c4 ∧ Blk w5 (w.heap.size + 4) T5 c5 ∧ Below w.heap.size w w5 := by
  have st : ∀ (v : World) (T : TypeId) (c : List Value), Below v.heap.size v (v.alloc (.cells c.toArray T)) := fun v T c => (Below.refl _ _).alloc (Nat.le_refl _) _
  generalize h1 : w.alloc (.cells c1.toArray T1) = w1 at e
  generalize h2 : w1.alloc (.cells c2.toArray T2) = w2 at e
  generalize h3 : w2.alloc (.cells c3.toArray T3) = w3 at e
  generalize h4 : w3.alloc (.cells c4.toArray T4) = w4 at e
  have s1 : w1.heap.size = w.heap.size + 1 := by rw [← h1]; simp
  have s2 : w2.heap.size = w.heap.size + 2 := by rw [← h2]; simp [s1]
  have s3 : w3.heap.size = w.heap.size + 3 := by rw [← h3]; simp [s2]
  have s4 : w4.heap.size = w.heap.size + 4 := by rw [← h4]; simp [s3]
  have k1 : Blk w1 w.heap.size T1 c1 := h1 ▸ Blk.new _ _ _
  have k2 : Blk w2 w1.heap.size T2 c2 := h2 ▸ Blk.new _ _ _
  have k3 : Blk w3 w2.heap.size T3 c3 := h3 ▸ Blk.new _ _ _
  have k4 : Blk w4 w3.heap.size T4 c4 := h4 ▸ Blk.new _ _ _
  have k5 : Blk w5 w4.heap.size T5 c5 := e ▸ Blk.new _ _ _
  have b1 : Below w.heap.size w w1 := h1 ▸ st _ _ _
  have b2 : Below w1.heap.size w1 w2 := h2 ▸ st _ _ _
  have b3 : Below w2.heap.size w2 w3 := h3 ▸ st _ _ _
  have b4 : Below w3.heap.size w3 w4 := h4 ▸ st _ _ _
  have b5 : Below w4.heap.size w4 w5 := e ▸ st _ _ _
  rw [s1] at k2
  rw [s2] at k3
  rw [s3] at k4
  rw [s4] at k5
  exact ⟨(((k1.keep b2).keep b3).keep b4).keep b5, ((k2.keep b3).keep b4).keep b5, (k3.keep b4).keep b5, k4.keep b5, k5, (((b1.trans (b2.mono (by omega))).trans (b3.mono (by omega))).trans (b4.mono (by omega))).trans (b5.mono (by omega))⟩

set_option maxRecDepth 100000 in
set_option maxHeartbeats 2000000 in
theorem do_sync (N : Nat → Prop) (d : DV) (x : Rv) (a : Ac) (D X : Dk) (w : World) (hN : ∀ b, w.heap.size ≤ b → N b) (hd : DkV w d D) (hx : RefV N w x X) (hXn : X.n ≤ 16384) (ha : a.act % 8 = 6) (ha2 : a.act ≤ 255) :
    Calls Try.prog 21 #[d.v, x.v, a.v] w fun e w' => ∃ (d' : DV) (x' : Rv), e = .returned (.tuple #[d'.v, x'.v, .bool true]) ∧ DkV w' d' D.sync ∧ RefV N w' x' X.sync ∧ Below w.heap.size w w' := by
  have t1 : ((a.act : Int) % 8 == 6) = true := by rw [beq_iff_eq]; omega
  have HD := hid hd
  have HX := hid hx
  clear hd hx ha
  obtain ⟨⟨SA, Sn, Sc⟩, ⟨WA, Wn, Wc⟩⟩ := x
  obtain ⟨act, at_, aa, bb, ch⟩ := a
  dsimp only at *
  simp only [DV.v, Rv.v, Sl.v, Ac.v]
  go_enter Try.func21, Try.ntmps21
  go_upto_region 1 with fail
  generalize hw1 : World.alloc (World.alloc (World.alloc (World.alloc (World.alloc w _) _) _) _) _ = w1
  obtain ⟨k1, k2, k3, k4, k5, hB⟩ := five_boxes (c1 := d.cs) (c2 := [.slice SA Sn Sc, .slice WA Wn Wc]) (c3 := (⟨act, at_, aa, bb, ch⟩ : Ac).cs) (c4 := DV.zero.cs) (c5 := Rv.zero.cs) hw1
  clear hw1
  obtain ⟨x0, x1, x2, x3, x4⟩ := k1.c5
  obtain ⟨y0, y1⟩ := k2.c2
  obtain ⟨z0, z1, z2, z3, z4⟩ := k3.c5
  have C1 := fun wx => sync_any d wx
  have C2 : Hid (∀ wx, Below w1.heap.size w1 wx → Calls Try.prog 30 #[.agg #[.slice SA Sn Sc, .slice WA Wn Wc]] wx fun e w' => ∃ x' : Rv, e = .returned x'.v ∧ RefV (fun b => N b ∧ (b < w.heap.size ∨ w.heap.size + 5 ≤ b)) w' x' X.sync ∧ Below wx.heap.size wx w') := fun wx hb =>
    refSync_any _ ⟨⟨SA, Sn, Sc⟩, ⟨WA, Wn, Wc⟩⟩ X wx (fun b hb' => ⟨hN b (by have := hB.size; have := hb.size; omega), .inr (by have := k5.lt; have := hb.size; omega)⟩) (((HX.out.lt.keep hB).keep hb).mono (fun b hb => ⟨hb.1, .inl hb.2⟩)) (by omega)
  dsimp only [DV.v, DV.sync] at C1
  have HC1 := hid C1
  clear C1
  go_wp2_with fail
  have e1 : ∀ (x : Ext w1) (y : Ext x.w), y.w.cell? ⟨w.heap.size, 0, none⟩ = some (.int .i64 d.n) := fun x y => Ext.cell (Ext.cell x0 x) y
  have e2 : ∀ (x : Ext w1) (y : Ext x.w), y.w.cell? ⟨w.heap.size, 1, none⟩ = some (.pointer d.s) := fun x y => Ext.cell (Ext.cell x1 x) y
  have e3 : ∀ (x : Ext w1) (y : Ext x.w), y.w.cell? ⟨w.heap.size, 2, none⟩ = some (.pointer d.c) := fun x y => Ext.cell (Ext.cell x2 x) y
  have e4 : ∀ (x : Ext w1) (y : Ext x.w), y.w.cell? ⟨w.heap.size, 3, none⟩ = some (.pointer d.l) := fun x y => Ext.cell (Ext.cell x3 x) y
  have e5 : ∀ (x : Ext w1) (y : Ext x.w), y.w.cell? ⟨w.heap.size, 4, none⟩ = some (.int .i64 d.m) := fun x y => Ext.cell (Ext.cell x4 x) y
  have e6 : ∀ (x : Ext w1) (y : Ext x.w), y.w.cell? ⟨w.heap.size + 1, 0, none⟩ = some (.slice SA Sn Sc) := fun x y => Ext.cell (Ext.cell y0 x) y
  have e7 : ∀ (x : Ext w1) (y : Ext x.w), y.w.cell? ⟨w.heap.size + 1, 1, none⟩ = some (.slice WA Wn Wc) := fun x y => Ext.cell (Ext.cell y1 x) y
  refine wp_region_tailD 3 [.agg #[.int .i64 d.n, .pointer d.s, .pointer d.c, .pointer d.l, .int .i64 d.m], .agg #[.int .i64 d.n, .pointer d.c, .pointer d.c, .pointer none, .int .i64 0], .agg #[.slice SA Sn Sc, .slice WA Wn Wc]] (by kernel_rfl) (by kernel_rfl) ?_
  simp only [List.take_succ_cons, List.take_zero]
  (refine wpU_quiet ((.agg #[.int .i64 d.n, .pointer d.s, .pointer d.c, .pointer d.l, .int .i64 d.m])) rfl (of_decide_eq_true (by kernel_rfl)) rfl (fun _ => ?_); go_big_quiet_step ((fail)); refine wpQuiet_nil ⟨rfl, ?_⟩)
  (refine wpU_quiet ((.agg #[.int .i64 d.n, .pointer d.c, .pointer d.c, .pointer none, .int .i64 0])) rfl (of_decide_eq_true (by kernel_rfl)) rfl (fun _ => ?_); go_big_quiet_step ((exact Ext.calls _ (HC1.out _))); refine wpQuiet_nil ⟨rfl, ?_⟩)
  (refine wpU_quiet ((.agg #[.slice SA Sn Sc, .slice WA Wn Wc])) rfl (of_decide_eq_true (by kernel_rfl)) rfl (fun _ => ?_); go_big_quiet_step ((fail)); refine wpQuiet_nil ⟨rfl, ?_⟩)
  intro w2 b2 _
  simp only [List.drop_succ_cons, List.drop_zero]
  clear e1 e2 e3 e4 e5 e6 e7 x0 x1 x2 x3 x4 y0 y1 z0 z1 z2 z3 z4
  have k42 := k4.keep b2
  have k52 := k5.keep b2
  have B2 := hB.trans (b2.mono hB.size)
  go_wp2_with fail
  refine (C2.out _ b2).mono ?_
  rintro e w3 ⟨x', rfl, hx3, b3⟩
  have k43 := k42.keep b3
  have k53 := k52.keep b3
  have B3 := B2.trans (b3.mono B2.size)
  clear k42 k52
  go_wp2_with (first
    | ((with_reducible refine is_store 25 ?_); refine wp_storeB (w.heap.size + 3) _ _ d.sync.cs k43 diskN rfl (dv_one _) rfl rfl ?_; intro w4 k44 r4; go_frame; have k54 := k53.grown r4 (by simp))
    | ((with_reducible refine is_store 48 ?_); refine wp_storeB (w.heap.size + 4) _ _ x'.cs k54 refN rfl (rv_one _) rfl rfl ?_; intro w5 k55 r5; go_frame; have k45 := k44.grown r5 (by simp)))
  obtain ⟨a0, a1, a2, a3, a4⟩ := k45.c5
  obtain ⟨b0, b1⟩ := k55.c2
  have hd5 := (((HD.out.sync.keep hB).keep b2).keep b3).kept ((Kept.grown r4 k43 notDk).trans (Kept.grown r5 k54 notDkR))
  have hx5 := (hx3.grown r4 (fun g hg hq => by cases hg; omega)).grown r5 (fun g hg hq => by cases hg; omega)
  have B5 := (B3.grown r4 B3.size (fun g hg => by cases hg; omega)).grown r5 (by have := r4.size; have := B3.size; omega) (fun g hg => by cases hg; omega)
  refine bodyPost_ret (v := .tuple #[d.sync.v, x'.v, .bool true]) (by simp [results, Try.results21, go_sem, a0, a1, a2, a3, a4, b0, b1]; exact ⟨rfl, rfl⟩) rfl ⟨d.sync, x', rfl, hd5, hx5.mono (fun b hb => hb.1), B5⟩
end Go.Proofs.Ythpalmncfcahkaa
