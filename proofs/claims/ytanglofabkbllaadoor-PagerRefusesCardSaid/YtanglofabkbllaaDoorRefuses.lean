/- The walk of PagerRefuses. Conditions: the table of remainders is laid; the arguments fit their types. -/
import Derived.Test.YtanglofabkbllaaDoorLaw
import Derived.Deep.Cut
import Derived.Deep.CutBlock
import Derived.Deep.DeepCutAuto
set_option linter.unusedSimpArgs false
set_option linter.unusedVariables false
namespace Go.Proofs.YtanglofabkbllaaDoor
open Go.RowKit
set_option maxRecDepth 100000

set_option maxHeartbeats 2000000 in
theorem alloc_none (w : World) :
    Calls Tryd.prog 15 #[Pgr.zero.v, .slice none 0 0] w fun e w' => e = .returned (.tuple #[Pgr.zero.v, .int .i64 0, .int .i64 11]) ∧ Below w.heap.size w w' := by
  have hp := Pgr.zero_ok
  obtain ⟨p, hpz⟩ : ∃ z, z = Pgr.zero := ⟨_, rfl⟩
  have h0 : p.pgs = 0 := by rw [hpz]; rfl
  rw [← hpz] at hp ⊢
  clear hpz
  unfold Pgr.v
  go_enter Tryd.func15, Tryd.ntmps15
  have hP : Blk (w.alloc (.cells p.cs.toArray 37)) w.heap.size 37 p.cs := Blk.new w _ _
  have hB : Below w.heap.size w (w.alloc (.cells p.cs.toArray 37)) := (Below.refl _ _).alloc (Nat.le_refl _) _
  have hs : (w.alloc (.cells p.cs.toArray 37)).heap.size = w.heap.size + 1 := by simp
  have hs0 := hp.pgs
  go_wp2_with ((with_reducible refine is_alloc 37 ?_); refine wp_allocN (w.heap.size + 1) hs _ arrPgr ?_; intro w2 k2 b2 s2; go_frame; have kP := hP.below b2 (by omega); have hB2 := hB.trans (b2.mono (by omega)); clear hP hB; obtain ⟨y0, y1, y2, y3, y4, y5, y6, y7, y8, y9⟩ := Pgr.c10 kP; have lP := kP.lt)
  clear y0 y1 y2 y3 y4 y5 y6 y7 y8 y9 lP b2 s2 hs
  go_loopw [18] (fun i wr => i = .int .i64 0 ∧ Blk wr w.heap.size 37 p.cs ∧ Blk wr (w.heap.size + 1) 37 Pgr.zero.cs ∧ Below w.heap.size w wr) (fun _ _ => 0)
  case atStart => exact ⟨rfl, kP, k2, hB2⟩
  case round =>
    obtain ⟨rfl, kP, kR, hbel⟩ := hrel
    clear k2 hB2
    have tk : ¬ (0 : Int) < (p.pgs : Int) := by omega
    have lP := kP.lt
    go_wp2_with (first
      | ((with_reducible refine is_load 37 ?_); refine wp_loadP w.heap.size p hp kP rfl ?_; go_frame)
      | ((with_reducible refine is_store 37 ?_); refine wp_storeP (w.heap.size + 1) _ p hp kR (by rw [Pgr.cs_len Pgr.zero_ok]) rfl rfl ?_; intro w4 k4 r4; go_frame))
    refine bodyPost_ret (results_P3 Tryd.results15 _ _ (w.heap.size + 1) p hp rfl k4) rfl ⟨rfl, hbel.grown r4 hbel.size (fun g hg => by cases hg; omega)⟩

theorem zero_open (n sec pgs : Nat) : openOf (Dk.new n) sec pgs = none := by
  unfold openOf
  show later13 (later13 none (rootF (Dk.new n).cur sec pgs 0)) (rootF (Dk.new n).cur sec pgs 1) = none
  rw [rootF_zero rfl, rootF_zero rfl]
  rfl
theorem i16_lim {x : Int} (h : (Lit.int .i16 x).wf = true) : -32768 ≤ x ∧ x ≤ 32767 := by
  simpa [Lit.wf, IntKind.min, IntKind.max, IntKind.signed, IntKind.bits] using h
theorem i64_lim {x : Int} (h : (Lit.int .i64 x).wf = true) : -9223372036854775808 ≤ x ∧ x ≤ 9223372036854775807 := by
  simpa [Lit.wf, IntKind.min, IntKind.max, IntKind.signed, IntKind.bits] using h
/-- what Create and Open say on a new disk -/
theorem refuses_plan (n : Nat) (s1 pg : Int) (h0 : 1 ≤ n) (hn : n ≤ 2000) :
    ∃ (wE oE : Int) (nE : Nat), (((nE : Int) == 1) != (wE == 0)) = false ∧
      ((pg < 1 ∨ 1023 < pg) ∧ wE = 3 ∧ oE = 3 ∨ (1 ≤ pg ∧ pg ≤ 1023) ∧ (s1 < 0 ∨ (n : Int) < s1 + 8 * (pg + 2)) ∧ wE = 1 ∧ oE = 1 ∨ (1 ≤ pg ∧ pg ≤ 1023) ∧ (0 ≤ s1 ∧ s1 + 8 * (pg + 2) ≤ (n : Int)) ∧ wE = 0 ∧ oE = 29) ∧
      (∀ d wx, DkV wx d (Dk.new n) → Tab wx → Calls Tryd.prog 12 #[d.v, .int .i64 s1, .int .i64 pg] wx fun e w' => ∃ P : Pgr, e = .returned (.tuple #[P.v, .int .i64 wE]) ∧ P.ok ∧ P.num = nE ∧ Below wx.heap.size wx w') ∧
      (∀ d wx, DkV wx d (Dk.new n) → Tab wx → Calls Tryd.prog 13 #[d.v, .int .i64 s1, .int .i64 pg] wx fun e w' => ∃ P : Pgr, e = .returned (.tuple #[P.v, .int .i64 oE]) ∧ P.ok ∧ Below wx.heap.size wx w') := by
  have bad : ∀ E : Int, E ≠ 0 → regE n s1 pg = E →
      (∀ d wx, DkV wx d (Dk.new n) → Tab wx → Calls Tryd.prog 12 #[d.v, .int .i64 s1, .int .i64 pg] wx fun e w' => ∃ P : Pgr, e = .returned (.tuple #[P.v, .int .i64 E]) ∧ P.ok ∧ P.num = 0 ∧ Below wx.heap.size wx w') ∧
      (∀ d wx, DkV wx d (Dk.new n) → Tab wx → Calls Tryd.prog 13 #[d.v, .int .i64 s1, .int .i64 pg] wx fun e w' => ∃ P : Pgr, e = .returned (.tuple #[P.v, .int .i64 E]) ∧ P.ok ∧ Below wx.heap.size wx w') := by
    intro E hE he
    have hdn : ∀ d wx, DkV wx d (Dk.new n) → d.n = n := fun d wx h => h.n
    refine ⟨fun d wx hd hT => ?_, fun d wx hd hT => ?_⟩
    · have := pcreate_bad d s1 pg wx (by rw [hdn d wx hd]; omega) (by rw [hdn d wx hd, he]; exact hE)
      rw [hdn d wx hd, he] at this
      refine this.mono ?_
      rintro e w' ⟨rfl, b⟩
      exact ⟨Pgr.zero, rfl, Pgr.zero_ok, rfl, b⟩
    · have := open_bad d s1 pg wx (by rw [hdn d wx hd]; omega) (by rw [hdn d wx hd, he]; exact hE)
      rw [hdn d wx hd, he] at this
      refine this.mono ?_
      rintro e w' ⟨rfl, b⟩
      exact ⟨Pgr.zero, rfl, Pgr.zero_ok, b⟩
  by_cases hA : pg < 1 ∨ 1023 < pg
  · obtain ⟨b1, b2⟩ := bad 3 (by omega) (by unfold regE; rw [if_pos hA])
    exact ⟨3, 3, 0, by decide, .inl ⟨hA, rfl, rfl⟩, b1, b2⟩
  · by_cases hB : s1 < 0 ∨ (n : Int) - 8 * (pg + 2) < s1
    · obtain ⟨b1, b2⟩ := bad 1 (by omega) (by unfold regE; rw [if_neg hA, if_pos hB])
      exact ⟨1, 1, 0, by decide, .inr (.inl ⟨by omega, by omega, rfl, rfl⟩), b1, b2⟩
    · obtain ⟨sec, rfl⟩ : ∃ z : Nat, s1 = z := ⟨s1.toNat, by omega⟩
      obtain ⟨pgs, rfl⟩ : ∃ z : Nat, pg = z := ⟨pg.toNat, by omega⟩
      have hlim : sec + 8 * (pgs + 2) ≤ (Dk.new n).n := by show _ ≤ n; omega
      refine ⟨0, 29, 1, by decide, .inr (.inr ⟨by omega, by omega, rfl, rfl⟩), fun d wx hd hT => ?_, fun d wx hd hT => ?_⟩
      · refine (pcreate_good d (Dk.new n) sec pgs wx hd hT (by omega) (by omega) hlim (by show (0 : Nat) ≤ _; omega)).mono ?_
        rintro e w' ⟨d', rfl, hd', b⟩
        exact ⟨_, rfl, ⟨by simp [zeros128], by simp [zeros128], by show sec ≤ 16384; omega, by show pgs ≤ 1023; omega, by show (1 : Nat) < _; omega, by simp⟩, rfl, b⟩
      · refine (open_good d (Dk.new n) sec pgs wx hd hT (by omega) (by omega) hlim).mono ?_
        rintro e w' ⟨h, b⟩
        rw [zero_open] at h
        exact ⟨Pgr.zero, h, Pgr.zero_ok, b⟩

set_option maxRecDepth 100000 in
set_option maxHeartbeats 16000000 in
theorem refuses_walk (s0 s1 pg : Int) (w : World) (hT : Tab w) (h0 : -32768 ≤ s0 ∧ s0 ≤ 32767) (h1 : -32768 ≤ s1 ∧ s1 ≤ 32767) (hpg : -9223372036854775808 ≤ pg ∧ pg ≤ 9223372036854775807) :
    Calls Tryd.prog 3 #[.int .i16 s0, .int .i16 s1, .int .i64 pg] w fun e w' => e = .returned (.bool true) ∧ Below w.heap.size w w' := by
  have HTb := hid hT
  clear hT
  go_enter Tryd.func3, Tryd.ntmps3
  by_cases c1 : s0 < 1
  · go_wp2_with fail
    refine (awake_any w HTb.out).mono ?_
    rintro e w1 ⟨rfl, B⟩
    go_wp2_with fail
    go_ret
    exact ⟨rfl, B⟩
  by_cases c2 : s0 > 2000
  · go_wp2_with fail
    refine (awake_any w HTb.out).mono ?_
    rintro e w1 ⟨rfl, B⟩
    go_wp2_with fail
    go_ret
    exact ⟨rfl, B⟩
  obtain ⟨n, rfl⟩ : ∃ z : Nat, s0 = z := ⟨s0.toNat, by omega⟩
  obtain ⟨wE, oE, nE, hnE, hcs, HC0, HO0⟩ := refuses_plan n s1 pg (by omega) (by omega)
  have HC := hid HC0
  have HO := hid HO0
  have HCs := hid hcs
  clear HC0 HO0 hcs
  have e1 := IntWalk.i64_in (n : Int) (by omega)
  have e2 := IntWalk.i64_in s1 (by omega)
  go_wp2_with fail
  refine (new_ok n w (by omega) (by omega)).mono ?_
  rintro e w1 ⟨rfl, b1⟩
  have hd0 := DkV.new w1 n (by omega)
  have hdv : (⟨n, none, none, none, 0⟩ : DV).v = (⟨n, none, none, none, 0⟩ : DV).v := rfl
  obtain ⟨d0, hd00⟩ : ∃ z : DV, z = ⟨n, none, none, none, 0⟩ := ⟨_, rfl⟩
  rw [← hd00] at hd0 ⊢
  clear hdv hd00
  have hsz := b1.size
  unfold DV.v
  go_wp2_with (first
    | ((with_reducible refine is_alloc 27 ?_); refine wp_allocB (w := w1) _ arrDisk ?_; intro w3 k3 b3 s3; go_frame)
    | ((with_reducible refine is_store 27 ?_); refine wp_storeB w1.heap.size _ _ d0.cs k3 diskN rfl (dv_one _) rfl rfl ?_; intro w4 k4 r4; go_frame; obtain ⟨x0, x1, x2, x3, x4⟩ := k4.c5; have l4 := k4.lt))
  have ba : Below w1.heap.size w1 w4 := b3.grown r4 b3.size (fun z hz => by cases hz; exact Nat.le_refl _)
  have hd4 := hd0.keep ba
  have B4 := b1.trans (ba.mono b1.size)
  clear b3 s3 k3 r4 ba b1 hd0
  generalize w1.heap.size = gd at *
  have R := HC.out d0 w4 hd4 (HTb.out.keep B4)
  unfold DV.v at R
  refine R.mono ?_
  clear R
  rintro e w5 ⟨P, rfl, hP, hPn, b5⟩
  have k5 := k4.keep b5
  have hd5 := hd4.keep b5
  have B5 := B4.trans (b5.mono B4.size)
  have hs5 := B5.size
  have HPn := hid hPn
  clear k4 b5 B4 hd4 x0 x1 x2 x3 x4 l4 hPn
  go_wp2_with (first
    | ((with_reducible refine is_alloc 37 ?_); refine wp_allocB (w := w5) _ arrPgr ?_; intro w6 k6 b6 s6; go_frame)
    | ((with_reducible refine is_store 37 ?_); refine wp_storeP w5.heap.size _ P hP k6 (by rw [Pgr.cs_len Pgr.zero_ok]) rfl rfl ?_; intro w7 kP7 r7; go_frame; have k7 := (k5.keep b6).grown r7 (by have := k5.lt; simp; omega); obtain ⟨x0, x1, x2, x3, x4⟩ := k7.c5; have l7 := k7.lt))
  have ba : Below w5.heap.size w5 w7 := b6.grown r7 b6.size (fun z hz => by cases hz; exact Nat.le_refl _)
  have hd7 := hd5.keep ba
  have B7 := B5.trans (ba.mono B5.size)
  clear b6 s6 k6 r7 ba B5 hd5 k5
  generalize w5.heap.size = gp at *
  have R := HO.out d0 w7 hd7 (HTb.out.keep B7)
  unfold DV.v at R
  refine R.mono ?_
  clear R
  rintro e w8 ⟨P2, rfl, hP2, b8⟩
  have kP8 := kP7.keep b8
  have B8 := B7.trans (b8.mono B7.size)
  have hs8 := B8.size
  clear kP7 b8 B7 hd7 k7 x0 x1 x2 x3 x4 l7
  go_upto_block 0 with (first
    | ((with_reducible refine is_alloc 37 ?_); refine wp_allocB (w := w8) _ arrPgr ?_; intro w9 k9 b9 s9; go_frame)
    | ((with_reducible refine is_store 37 ?_); refine wp_storeP w8.heap.size _ P2 hP2 k9 (by rw [Pgr.cs_len Pgr.zero_ok]) rfl rfl ?_; intro w10 k10 r10; go_frame))
  have ba : Below w8.heap.size w8 w10 := b9.grown r10 b9.size (fun z hz => by cases hz; exact Nat.le_refl _)
  have kP10 := kP8.keep ba
  have B10 := B8.trans (ba.mono B8.size)
  clear b9 s9 k9 r10 ba B8 kP8 k10
  generalize w8.heap.size = g8 at *
  go_cut [13, 14] (fun a b wx => a = .int .i64 wE ∧ b = .int .i64 oE ∧ wx = w10)
  case first =>
    rcases HCs.out with ⟨hA, e3, e4⟩ | ⟨hA, hB, e3, e4⟩ | ⟨hA, hB, e3, e4⟩
    · have HE := hid (And.intro e3 e4)
      clear e3 e4
      by_cases hA1 : pg < 1
      · go_wp2_with fail
        go_meet
        case rel => exact ⟨by rw [HE.out.1], by rw [HE.out.2], rfl⟩
      · have hA2 : pg > 1023 := by omega
        go_wp2_with fail
        go_meet
        case rel => exact ⟨by rw [HE.out.1], by rw [HE.out.2], rfl⟩
    · have HE := hid (And.intro e3 e4)
      clear e3 e4
      have t1 : ¬ pg < 1 := by omega
      have t2 : ¬ pg > 1023 := by omega
      have q1 := IntWalk.i64_in (pg + 2) (by omega)
      have q2 := IntWalk.i64_in (8 * (pg + 2)) (by omega)
      have q3 := IntWalk.i64_in (s1 + 8 * (pg + 2)) (by omega)
      by_cases hB1 : s1 < 0
      · go_wp2_with fail
        go_meet
        case rel => exact ⟨by rw [HE.out.1], by rw [HE.out.2], rfl⟩
      · have hB2 : s1 + 8 * (pg + 2) > (n : Int) := by omega
        go_wp2_with fail
        go_meet
        case rel => exact ⟨by rw [HE.out.1], by rw [HE.out.2], rfl⟩
    · have HE := hid (And.intro e3 e4)
      clear e3 e4
      have t1 : ¬ pg < 1 := by omega
      have t2 : ¬ pg > 1023 := by omega
      have q1 := IntWalk.i64_in (pg + 2) (by omega)
      have q2 := IntWalk.i64_in (8 * (pg + 2)) (by omega)
      have q3 := IntWalk.i64_in (s1 + 8 * (pg + 2)) (by omega)
      have hB1 : ¬ s1 < 0 := by omega
      have hB2 : ¬ s1 + 8 * (pg + 2) > (n : Int) := by omega
      go_wp2_with fail
      go_meet
      case rel => exact ⟨by rw [HE.out.1], by rw [HE.out.2], rfl⟩
  case rest =>
    obtain ⟨rfl, rfl, rfl⟩ := hcut
    have R := root_any P wc hP
    rw [HPn.out] at R
    go_wp2_with ((with_reducible refine is_load 37 ?_); refine wp_loadP gp P hP kP10 rfl ?_; go_frame)
    refine R.mono ?_
    clear R
    rintro e w11 ⟨gm, cm, rfl, hm, b11⟩
    have B11 := B10.trans (b11.mono B10.size)
    have n1 : (wE != wE) = false := by simp
    have n2 : (oE != oE) = false := by simp
    obtain ⟨bb1, hb1⟩ : ∃ z, ((nE : Int) == 1) = z := ⟨_, rfl⟩
    obtain ⟨bb2, hb2⟩ : ∃ z, (wE == 0) = z := ⟨_, rfl⟩
    rw [hb1, hb2] at hnE
    have hnE3 := (show ∀ a b : Bool, (a != b) = false → (!a == b) = false by decide) bb1 bb2 hnE
    clear b11 B10 hm kP10
    have hZo := Pgr.zero_ok
    have hs11 := B11.size
    go_wp2_with (first
      | ((with_reducible refine is_alloc 37 ?_); refine wp_allocB (w := w11) _ arrPgr ?_; intro w12 kz b12 s12; go_frame; have lz := kz.lt)
      | ((with_reducible refine is_load 37 ?_); refine wp_loadP w11.heap.size Pgr.zero hZo kz rfl ?_; go_frame))
    have B12 := B11.trans (b12.mono B11.size)
    clear B11 b12 s12
    generalize w11.heap.size = gz at *
    have A1 := fun wx => alloc_none wx
    have A2 := fun wx => free_no Pgr.zero 1 wx hZo (by decide)
    have A3 := fun wx => pgread_no Pgr.zero 1 wx hZo (by decide)
    have A4 := fun wx => used_any Pgr.zero wx hZo
    have A5 := fun wx => room_any Pgr.zero wx hZo
    rw [show (Pgr.zero.usedL 1024) = [] by decide +kernel] at A4
    rw [show Pgr.zero.roomC Pgr.zero.pgs = 0 by decide +kernel, show ((0 : Nat) : Int) = 0 from rfl] at A5
    have HA := hid (And.intro A2 (And.intro A3 (And.intro A4 A5)))
    clear A2 A3 A4 A5
    refine (A1 _).mono ?_
    rintro e w13 ⟨rfl, b13⟩
    have kz13 := kz.keep b13
    have B13 := B12.trans (b13.mono B12.size)
    have hs13 := B13.size
    have lz13 := kz13.lt
    clear kz b13 B12 A1 lz
    go_wp2_with (first
      | ((with_reducible refine is_alloc 37 ?_); refine wp_allocB (w := w13) _ arrPgr ?_; intro w14 k14 b14 s14; go_frame)
      | ((with_reducible refine is_store 37 ?_); refine wp_storeP w13.heap.size _ Pgr.zero hZo k14 (by rw [Pgr.cs_len Pgr.zero_ok]) rfl rfl ?_; intro w15 k15 r15; go_frame; have kz15 := (kz13.keep b14).grown r15 (by simp; omega); have lz15 := kz15.lt)
      | ((with_reducible refine is_load 37 ?_); refine wp_loadP gz Pgr.zero hZo kz15 rfl ?_; go_frame))
    have B15 := (B13.trans (b14.mono B13.size)).grown r15 (by have := b14.size; omega) (fun z hz => by cases hz; exact hs13)
    clear b14 s14 k14 r15 k15 kz13 B13
    refine (HA.out.1 _).mono ?_
    rintro e w16 ⟨rfl, b16⟩
    have kz16 := kz15.keep b16
    have B16 := B15.trans (b16.mono B15.size)
    have hs16 := B16.size
    have lz16 := kz16.lt
    clear kz15 b16 B15 lz15
    go_wp2_with (first
      | ((with_reducible refine is_alloc 37 ?_); refine wp_allocB (w := w16) _ arrPgr ?_; intro w17 k17 b17 s17; go_frame)
      | ((with_reducible refine is_store 37 ?_); refine wp_storeP w16.heap.size _ Pgr.zero hZo k17 (by rw [Pgr.cs_len Pgr.zero_ok]) rfl rfl ?_; intro w18 k18 r18; go_frame; have kz18 := (kz16.keep b17).grown r18 (by simp; omega); have lz18 := kz18.lt)
      | ((with_reducible refine is_load 37 ?_); refine wp_loadP gz Pgr.zero hZo kz18 rfl ?_; go_frame))
    have B18 := (B16.trans (b17.mono B16.size)).grown r18 (by have := b17.size; omega) (fun z hz => by cases hz; exact hs16)
    clear b17 s17 k17 r18 k18 kz16 B16
    refine (HA.out.2.1 _).mono ?_
    rintro e w19 ⟨rfl, b19⟩
    have kz19 := kz18.keep b19
    have B19 := B18.trans (b19.mono B18.size)
    clear kz18 b19 B18 lz18
    have lz19 := kz19.lt
    go_wp2_with fail
    refine (awake_any _ (HTb.out.keep B19)).mono ?_
    rintro e w20 ⟨rfl, b20⟩
    have kz20 := kz19.keep b20
    have B20 := B19.trans (b20.mono B19.size)
    clear kz19 b20 B19 lz19
    have lz20 := kz20.lt
    go_wp2_with ((with_reducible refine is_load 37 ?_); refine wp_loadPg gz Pgr.zero hZo kz20 rfl rfl ?_; go_frame)
    refine (HA.out.2.2.1 _).mono ?_
    rintro e w21 ⟨v, rfl, hown, b21⟩
    obtain ⟨Au, cu, rfl, _, _, _⟩ := own_form hown
    have kz21 := kz20.keep b21
    have B21 := B20.trans (b21.mono B20.size)
    clear kz20 b21 B20 lz20 hown
    have lz21 := kz21.lt
    simp only [List.length_nil]
    go_wp2_with ((with_reducible refine is_load 37 ?_); refine wp_loadPg gz Pgr.zero hZo kz21 rfl rfl ?_; go_frame)
    refine (HA.out.2.2.2 _).mono ?_
    rintro e w22 ⟨rfl, b22⟩
    go_wp2_with fail
    go_ret
    exact ⟨rfl, B21.trans (b22.mono B21.size)⟩
end Go.Proofs.YtanglofabkbllaaDoor
