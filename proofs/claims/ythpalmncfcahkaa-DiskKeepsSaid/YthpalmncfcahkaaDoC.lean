/- The law's do, walked: crashes. Conditions: the disk and the reference's disk read. -/
import Derived.Test.YthpalmncfcahkaaDo
import Derived.Test.YthpalmncfcahkaaRegV
set_option linter.unusedSimpArgs false
set_option linter.unusedVariables false
namespace Go.Proofs.Ythpalmncfcahkaa
open Go.RowKit

section
variable {P : Program} {ops : Array Oper} {w0 : World} {Us : Nat → Value → World → Prop}
/-- a step that only reads, or calls what hands back a plain value -/
theorem wpV_quiet {Q : Act → Prop} {o : Oper} {l : List Oper} {k d : Nat} {a : Act} (v : Value) (hd : o.dst = some d) (hlt : d < a.tmps.size) (hU : Us k = fun u _ => u = v)
    (h : ∀ x : Ext w0, wpQuiet P ops (fun w' => ∃ y : Ext x.w, w' = y.w) (fun a' => a' = a.put o.dst v ∧ wpV P ops w0 Us Q l (k + 1) a') [o] a) : wpV P ops w0 Us Q (o :: l) k a := by
  have hne : ∀ v', a.put o.dst v' = a.put o.dst v → v' = v := fun v' he => by
    rw [hd] at he
    have := congrArg (fun b : Act => b.tmps.getD d undef) he
    simp only [put_getD] at this
    simpa [hlt] using this
  unfold wpV
  split
  · rename_i hw
    have H : ∀ x : Ext w0, o.quietAt P a (fun w' => ∃ y : Ext x.w, w' = y.w) x.w v ∧ wpV P ops w0 Us Q l (k + 1) (a.put o.dst v) := fun x => by
      have := h x
      unfold wpQuiet at this
      rw [if_pos hw] at this
      obtain ⟨v', hv, he, hK⟩ := this
      obtain rfl := hne v' he
      exact ⟨hv _ ⟨⟨x.w, Below.refl _ _⟩, rfl⟩, hK⟩
    refine ⟨fun w hb => ?_, fun u hu => ?_⟩
    · have := (H ⟨w, hb⟩).1
      unfold Oper.quietAt at this
      generalize (execOp a.eval o).run P w = r at this
      rw [hU]
      cases r with
      | ok n w' =>
        cases n <;> simp only [Oper.quietUpon, vUpon] at this ⊢
        case value u => exact ⟨this.1 ▸ Below.refl _ _, this.2⟩
        case skip => exact ⟨this.1, this.2.symm⟩
        case enter f args =>
          refine ⟨this.1, this.2.mono fun e w'' hh => ?_⟩
          obtain ⟨he, y, rfl⟩ := hh
          exact ⟨v, he, rfl, y.h⟩
      | halt x w' => simp only [Oper.quietUpon] at this
    · rw [hU] at hu
      obtain ⟨_, rfl⟩ := hu
      exact (H ⟨w0, Below.refl _ _⟩).2
  · rename_i hw
    have := h ⟨w0, Below.refl _ _⟩
    unfold wpQuiet at this
    rw [if_neg hw] at this
    exact this.2
/-- a call whose result is known together with the world -/
theorem wpV_call {Q : Act → Prop} {o : Oper} {l : List Oper} {k : Nat} {a : Act} (f : FuncId) (args : Array Value) (C : Value → World → Prop) (hg : o.guard = none) (hU : Us k = C)
    (hop : ∀ w, Below w0.heap.size w0 w → (execOp a.eval o).run P w = .ok (.enter f args) w)
    (hc : ∀ w, Below w0.heap.size w0 w → Calls P f args w fun e w'' => ∃ u, e = .returned u ∧ C u w'' ∧ Below w.heap.size w w'')
    (h : ∀ u, (∃ w, C u w) → wpV P ops w0 Us Q l (k + 1) (a.put o.dst u)) : wpV P ops w0 Us Q (o :: l) k a := by
  have hw : Region.wanted o (yielded ops a.tmps) = true := by simp [Region.wanted, hg]
  unfold wpV
  rw [if_pos hw]
  refine ⟨fun w hb => ?_, fun u hu => h u (by rw [hU] at hu; exact hu)⟩
  rw [hop w hb, hU]
  exact ⟨rfl, hc w hb⟩
/-- one slot's content is kept -/
def Kc (s : Nat) (C : Value → World → Prop) (a : Act) (w : World) : Prop := a.tmps.getD s undef = undef ∨ C (a.tmps.getD s undef) w
theorem Kc.put {s : Nat} {C : Value → World → Prop} {a : Act} {w w' : World} {d : Option Nat} {u : Value} (hm : ∀ u, C u w → C u w') (h : Kc s C a w) (hd : d ≠ some s ∨ u = undef ∨ C u w') : Kc s C (a.put d u) w' := by
  have old : Kc s C a w' := h.imp id (hm _)
  cases d with
  | none => exact old
  | some d =>
    unfold Kc
    rw [put_getD]
    split
    · rename_i hh
      rcases hd with hd | hd | hd
      · exact absurd (by rw [hh.1]) hd
      · exact .inl hd
      · exact .inr hd
    · exact old
theorem presV_kc {U : Value → World → Prop} {s : Nat} {C : Value → World → Prop} {o : Oper} (hm : ∀ u w w', Below w.heap.size w w' → C u w → C u w') (h : o.dst ≠ some s ∨ U = C) : PresV P w0 U (Kc s C) o := by
  intro a w hw hk
  refine ⟨hk.put (fun _ h => h) (.inr (.inl rfl)), fun u w' _ hb hU => hk.put (fun u => hm u w w' hb) ?_, fun f args w1 u w' _ hb hU => hk.put (fun u => hm u w w' hb) ?_⟩
  all_goals
    rcases h with h | h
    · exact .inl h
    · exact .inr (.inr (h ▸ hU))
end
theorem dv_inj {d e : DV} (h : d.v = e.v) : d = e := by
  obtain ⟨n, s, c, l, m⟩ := d
  obtain ⟨n', s', c', l', m'⟩ := e
  unfold DV.v at h
  simp only [Value.agg.injEq, Array.mk.injEq, List.cons.injEq, Value.int.injEq, Value.pointer.injEq, true_and, and_true] at h
  obtain ⟨h1, rfl, rfl, rfl, h2⟩ := h
  obtain rfl : n = n' := by omega
  obtain rfl : m = m' := by omega
  rfl

set_option maxRecDepth 100000 in
set_option maxHeartbeats 4000000 in
theorem do_crash (N : Nat → Prop) (d : DV) (x : Rv) (a : Ac) (D X : Dk) (w : World) (hN : ∀ b, w.heap.size ≤ b → N b) (hd : DkV w d D) (hx : RefV N w x X) (hXn : X.n ≤ 16384) (ha : a.act % 8 = 7) (hm : D.W.length ≤ 1000000) (hch : a.ch < 18446744073709551616) :
    Calls Try.prog 21 #[d.v, x.v, a.v] w fun e w' => ∃ (d' : DV) (x' : Rv), e = .returned (.tuple #[d'.v, x'.v, .bool true]) ∧ DkV w' d' (D.crash a.ch) ∧ RefV N w' x' (X.crash a.ch) ∧ Below w.heap.size w w' := by
  have t1 : ((a.act : Int) % 8 == 6) = false := by rw [beq_eq_false_iff_ne]; omega
  have t2 : ((a.act : Int) % 8 == 7) = true := by rw [beq_iff_eq]; omega
  have HD := hid hd
  have HX := hid hx
  clear hd hx ha
  obtain ⟨⟨SA, Sn, Sc⟩, ⟨WA, Wn, Wc⟩⟩ := x
  obtain ⟨act, at_, aa, bb, ch⟩ := a
  dsimp only at *
  simp only [DV.v, Rv.v, Sl.v, Ac.v]
  go_enter Try.func21, Try.ntmps21
  go_upto_region 1 with fail
  generalize hw1 : World.alloc (World.alloc (World.alloc (World.alloc (World.alloc w _) _) _) _) _ = w1
  obtain ⟨k1, k2, k3, k4, k5, hB⟩ := five_boxes (c1 := d.cs) (c2 := [.slice SA Sn Sc, .slice WA Wn Wc]) (c3 := (⟨act, at_, aa, bb, ch⟩ : Ac).cs) (c4 := DV.zero.cs) (c5 := Rv.zero.cs) hw1
  clear hw1
  obtain ⟨x0, x1, x2, x3, x4⟩ := k1.c5
  obtain ⟨y0, y1⟩ := k2.c2
  obtain ⟨z0, z1, z2, z3, z4⟩ := k3.c5
  have C1 : Hid (∀ wx, Below w1.heap.size w1 wx → Calls Try.prog 17 #[d.v, .int .u64 ch] wx fun e w' => ∃ u, e = .returned u ∧ (∃ d' : DV, u = d'.v ∧ DkV w' d' (D.crash ch)) ∧ Below wx.heap.size wx w') := fun wx hb =>
    (crash_any d D ch wx ((HD.out.keep hB).keep hb) hm hch).mono fun e w' ⟨d', h1, h2, h3⟩ => ⟨_, h1, ⟨d', rfl, h2⟩, h3⟩
  have C2 : Hid (∀ wx, Below w1.heap.size w1 wx → Calls Try.prog 31 #[.agg #[.slice SA Sn Sc, .slice WA Wn Wc], .int .u64 ch] wx fun e w' => ∃ x' : Rv, e = .returned x'.v ∧ RefV (fun b => N b ∧ (b < w.heap.size ∨ w.heap.size + 5 ≤ b)) w' x' (X.crash ch) ∧ Below wx.heap.size wx w') := fun wx hb =>
    refCrash_any _ ⟨⟨SA, Sn, Sc⟩, ⟨WA, Wn, Wc⟩⟩ X ch wx (fun b hb' => ⟨hN b (by have := hB.size; have := hb.size; omega), .inr (by have := k5.lt; have := hb.size; omega)⟩) (((HX.out.lt.keep hB).keep hb).mono (fun b hb => ⟨hb.1, .inl hb.2⟩)) (by omega) hch
  go_wp2_with fail
  have e1 : ∀ (x : Ext w1) (y : Ext x.w), y.w.cell? ⟨w.heap.size, 0, none⟩ = some (.int .i64 d.n) := fun x y => Ext.cell (Ext.cell x0 x) y
  have e2 : ∀ (x : Ext w1) (y : Ext x.w), y.w.cell? ⟨w.heap.size, 1, none⟩ = some (.pointer d.s) := fun x y => Ext.cell (Ext.cell x1 x) y
  have e3 : ∀ (x : Ext w1) (y : Ext x.w), y.w.cell? ⟨w.heap.size, 2, none⟩ = some (.pointer d.c) := fun x y => Ext.cell (Ext.cell x2 x) y
  have e4 : ∀ (x : Ext w1) (y : Ext x.w), y.w.cell? ⟨w.heap.size, 3, none⟩ = some (.pointer d.l) := fun x y => Ext.cell (Ext.cell x3 x) y
  have e5 : ∀ (x : Ext w1) (y : Ext x.w), y.w.cell? ⟨w.heap.size, 4, none⟩ = some (.int .i64 d.m) := fun x y => Ext.cell (Ext.cell x4 x) y
  have e6 : ∀ (x : Ext w1) (y : Ext x.w), y.w.cell? ⟨w.heap.size + 1, 0, none⟩ = some (.slice SA Sn Sc) := fun x y => Ext.cell (Ext.cell y0 x) y
  have e7 : ∀ (x : Ext w1) (y : Ext x.w), y.w.cell? ⟨w.heap.size + 1, 1, none⟩ = some (.slice WA Wn Wc) := fun x y => Ext.cell (Ext.cell y1 x) y
  have e8 : ∀ (x : Ext w1) (y : Ext x.w), y.w.cell? ⟨w.heap.size + 2, 4, none⟩ = some (.int .u64 ch) := fun x y => Ext.cell (Ext.cell z4 x) y
  let C : Value → World → Prop := fun u w' => ∃ d' : DV, u = d'.v ∧ DkV w' d' (D.crash ch)
  have hC : ∀ u wa wb, Below wa.heap.size wa wb → C u wa → C u wb := fun u wa wb hb ⟨d', h1, h2⟩ => ⟨d', h1, h2.keep hb⟩
  refine wp_region_tailV 7 (fun k => ([(fun u _ => u = .agg #[.int .i64 d.n, .pointer d.s, .pointer d.c, .pointer d.l, .int .i64 d.m]), (fun u _ => u = .pointer (some ⟨w.heap.size + 1 + 1, 4, none⟩)), (fun u _ => u = .int .u64 ch), C, (fun u _ => u = .agg #[.slice SA Sn Sc, .slice WA Wn Wc]), (fun u _ => u = .pointer (some ⟨w.heap.size + 1 + 1, 4, none⟩)), (fun u _ => u = .int .u64 ch)] : List (Value → World → Prop)).getD k (fun _ _ => True)) (Kc 29 C) (by kernel_rfl) (by kernel_rfl) ?_ (.inl rfl) ?_
  · intro i o hi ho
    have hi' : i = 0 ∨ i = 1 ∨ i = 2 ∨ i = 3 ∨ i = 4 ∨ i = 5 ∨ i = 6 := by omega
    rcases hi' with rfl | rfl | rfl | rfl | rfl | rfl | rfl <;> obtain rfl := Option.some.inj ho
    · exact presV_kc hC (.inl (by decide))
    · exact presV_kc hC (.inl (by decide))
    · exact presV_kc hC (.inl (by decide))
    · exact presV_kc hC (.inr rfl)
    · exact presV_kc hC (.inl (by decide))
    · exact presV_kc hC (.inl (by decide))
    · exact presV_kc hC (.inl (by decide))
  simp only [List.take_succ_cons, List.take_zero]
  (refine wpV_quiet ((.agg #[.int .i64 d.n, .pointer d.s, .pointer d.c, .pointer d.l, .int .i64 d.m])) rfl (of_decide_eq_true (by kernel_rfl)) rfl (fun _ => ?_); go_big_quiet_step ((fail)); refine wpQuiet_nil ⟨rfl, ?_⟩)
  (refine wpV_quiet ((.pointer (some ⟨w.heap.size + 1 + 1, 4, none⟩))) rfl (of_decide_eq_true (by kernel_rfl)) rfl (fun _ => ?_); go_big_quiet_step ((fail)); refine wpQuiet_nil ⟨rfl, ?_⟩)
  (refine wpV_quiet ((.int .u64 ch)) rfl (of_decide_eq_true (by kernel_rfl)) rfl (fun _ => ?_); go_big_quiet_step ((fail)); refine wpQuiet_nil ⟨rfl, ?_⟩)
  refine wpV_call 17 #[d.v, .int .u64 ch] C rfl rfl ?_ (fun wx hb => C1.out wx hb) ?_
  · intro wx hb
    go_simp
    rfl
  · rintro u ⟨_, d', rfl, _⟩
    go_frame
    (refine wpV_quiet ((.agg #[.slice SA Sn Sc, .slice WA Wn Wc])) rfl (of_decide_eq_true (by kernel_rfl)) rfl (fun _ => ?_); go_big_quiet_step ((fail)); refine wpQuiet_nil ⟨rfl, ?_⟩)
    (refine wpV_quiet ((.pointer (some ⟨w.heap.size + 1 + 1, 4, none⟩))) rfl (of_decide_eq_true (by kernel_rfl)) rfl (fun _ => ?_); go_big_quiet_step ((fail)); refine wpQuiet_nil ⟨rfl, ?_⟩)
    (refine wpV_quiet ((.int .u64 ch)) rfl (of_decide_eq_true (by kernel_rfl)) rfl (fun _ => ?_); go_big_quiet_step ((fail)); refine wpQuiet_nil ⟨rfl, ?_⟩)
    intro w2 b2 hΦ
    obtain ⟨d2, he, hd2⟩ := hΦ.resolve_left (by intro h; cases h)
    obtain rfl : d' = d2 := dv_inj he
    clear hΦ hC C he
    simp only [List.drop_succ_cons, List.drop_zero]
    clear e1 e2 e3 e4 e5 e6 e7 e8 x0 x1 x2 x3 x4 y0 y1 z0 z1 z2 z3 z4
    have k42 := k4.keep b2
    have k52 := k5.keep b2
    have B2 := hB.trans (b2.mono hB.size)
    go_wp2_with fail
    refine (C2.out _ b2).mono ?_
    rintro e w3 ⟨x', rfl, hx3, b3⟩
    have k43 := k42.keep b3
    have k53 := k52.keep b3
    have B3 := B2.trans (b3.mono B2.size)
    have hd3 := hd2.keep b3
    clear k42 k52 hd2
    go_wp2_with (first
      | ((with_reducible refine is_store 25 ?_); refine wp_storeB (w.heap.size + 3) _ _ d'.cs k43 diskN rfl (dv_one _) rfl rfl ?_; intro w4 k44 r4; go_frame; have k54 := k53.grown r4 (by simp))
      | ((with_reducible refine is_store 48 ?_); refine wp_storeB (w.heap.size + 4) _ _ x'.cs k54 refN rfl (rv_one _) rfl rfl ?_; intro w5 k55 r5; go_frame; have k45 := k44.grown r5 (by simp)))
    obtain ⟨a0, a1, a2, a3, a4⟩ := k45.c5
    obtain ⟨b0, b1⟩ := k55.c2
    have hd5 := hd3.kept ((Kept.grown r4 k43 notDk).trans (Kept.grown r5 k54 notDkR))
    have hx5 := (hx3.grown r4 (fun g hg hq => by cases hg; omega)).grown r5 (fun g hg hq => by cases hg; omega)
    have B5 := (B3.grown r4 B3.size (fun g hg => by cases hg; omega)).grown r5 (by have := r4.size; have := B3.size; omega) (fun g hg => by cases hg; omega)
    refine bodyPost_ret (v := .tuple #[d'.v, x'.v, .bool true]) (by simp [results, Try.results21, go_sem, a0, a1, a2, a3, a4, b0, b1]; exact ⟨rfl, rfl⟩) rfl ⟨d', x', rfl, hd5, hx5.mono (fun b hb => hb.1), B5⟩
end Go.Proofs.Ythpalmncfcahkaa
