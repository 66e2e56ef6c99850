/- The example of the chapter, walked. Conditions: none. -/
import Derived.Test.YthpalmncfcahkaaIs
import Derived.Test.YthpalmncfcahkaaVar
import Derived.Test.YthpalmncfcahkaaDiskRW
import Derived.Deep.Cut
import Derived.Deep.DeepCutAuto
set_option linter.unusedSimpArgs false
set_option linter.unusedVariables false
namespace Go.Proofs.Ythpalmncfcahkaa
open Go.RowKit

set_option maxRecDepth 100000 in
set_option maxHeartbeats 2000000 in
theorem awake_any (w : World) :
    Calls Try.prog 10 #[] w fun e w' => e = .returned (.bool true) ∧ Below w.heap.size w w' := by
  go_enter Try.func10, Try.ntmps10
  go_wp2_with fail
  refine (new_ok 2 _ (by omega) (by omega)).mono ?_
  rintro e w1 ⟨rfl, b1⟩
  simp only [DV.v, show ((2 : Nat) : Int) = 2 from rfl, show ((0 : Nat) : Int) = 0 from rfl]
  go_wp2_with fail
  have hP : Blk (w1.alloc (.cells #[.int .i64 2, .pointer none, .pointer none, .pointer none, .int .i64 0] 25)) w1.heap.size 25 [.int .i64 2, .pointer none, .pointer none, .pointer none, .int .i64 0] := Blk.new w1 _ _
  have hB : Below w1.heap.size w1 (w1.alloc (.cells #[.int .i64 2, .pointer none, .pointer none, .pointer none, .int .i64 0] 25)) := (Below.refl _ _).alloc (Nat.le_refl _) _
  have hS : (w1.alloc (.cells #[.int .i64 2, .pointer none, .pointer none, .pointer none, .int .i64 0] 25)).heap.size = w1.heap.size + 1 := by simp
  generalize (w1.alloc (.cells #[.int .i64 2, .pointer none, .pointer none, .pointer none, .int .i64 0] 25)) = w2 at hP hB hS ⊢
  have B2 := b1.trans (hB.mono b1.size)
  have D2 : Bx w2 w1.heap.size ⟨2, none, none, none, 0⟩ (Dk.new 2) := ⟨hP, DkV.new w2 2 (by omega)⟩
  have hH : w.heap.size ≤ w1.heap.size := b1.size
  clear hB b1 hS hP
  generalize w1.heap.size = H at *
  obtain ⟨x0, x1, x2, x3, x4⟩ := D2.k.c5
  have CS := fun wx => sector_any 1 1 wx
  simp only [show N8 1 = 1 from rfl] at CS
  have HS := hid CS
  clear CS
  go_upto_region 2 with fail
  go_cut [3] (fun e wx => ∃ d' : DV, e = .int .i64 0 ∧ Bx wx H d' ((Dk.new 2).write 0 (sect 1 1)) ∧ Below w.heap.size w wx)
  case first =>

    go_region_law (first
      | (go_simp; go_at_call 14; refine (HS.out _).mono ?_; rintro e w3 ⟨v3, rfl, hown3, b3⟩; obtain ⟨A3, c3, rfl, hr3, _, _⟩ := own_form hown3; have K3 := (show Below w2.heap.size w2 w2.drew from (Below.refl _ _).drew).trans b3; obtain ⟨y0, y1, y2, y3, y4⟩ := (D2.keep K3).k.c5)
      | (go_simp; go_at_call 15; refine (write_good ⟨2, none, none, none, 0⟩ (Dk.new 2) A3 c3 (sect 1 1) 0 w3 (D2.keep K3).d (by decide) hr3 (by decide)).mono ?_; rintro e w4 ⟨d4, he, hd4, b4⟩; unfold DV.v at he; subst he; have K4 := K3.trans (b4.mono K3.size); obtain ⟨z0, z1, z2, z3, z4⟩ := (D2.keep K4).k.c5; have zf := (D2.keep K4).k.fz))
    all_goals (
      obtain ⟨q1, q2⟩ := set5 (D2.keep K4).k rfl (.int .i64 d4.n) (.pointer d4.s) (.pointer d4.c) (.pointer d4.l) (.int .i64 d4.m)
      generalize ((((w4.setCell ⟨H, 0, none⟩ (.int .i64 d4.n)).setCell ⟨H, 1, none⟩ (.pointer d4.s)).setCell ⟨H, 2, none⟩ (.pointer d4.c)).setCell ⟨H, 3, none⟩ (.pointer d4.l)).setCell ⟨H, 4, none⟩ (.int .i64 d4.m) = w5 at q1 q2 ⊢
      have D5 := (D2.keep K4).put q1 q2 hd4
      have B5 := (B2.trans (K4.mono B2.size)).grown q2 (B2.trans (K4.mono B2.size)).size (fun k hk => by cases hk; exact hH)
      simp only [List.getElem_toArray, List.getElem_cons_succ, List.getElem_cons_zero]
      go_frame
      go_wp2_with fail
      go_meet
      case rel => exact ⟨d4, rfl, D5, B5⟩)
  case rest =>
    obtain ⟨d4, rfl, D4, B4⟩ := hcut
    clear HS D2 B2 x0 x1 x2 x3 x4
    have CS := fun wx => sector_any 2 2 wx
    simp only [show N8 2 = 2 from rfl] at CS
    have HS := hid CS
    clear CS
    obtain ⟨D, hD⟩ : ∃ z, (Dk.new 2).write 0 (sect 1 1) = z := ⟨_, rfl⟩
    rw [hD] at D4
    have hDn : D.n = 2 := by rw [← hD]; rfl
    have hDW : D.W.length = 1 := by rw [← hD]; rfl
    have HD := hid hD
    have HDn := hid hDn
    have HDW := hid hDW
    clear hD hDn hDW
    obtain ⟨x0, x1, x2, x3, x4⟩ := D4.k.c5
    go_upto_region 3 with fail
    go_cut [4] (fun e wx => ∃ d' : DV, e = .int .i64 0 ∧ Bx wx H d' (D.write 0 (sect 2 2)) ∧ Below w.heap.size w wx)
    case first =>
      go_region_law (first
        | (go_simp; go_at_call 14; refine (HS.out _).mono ?_; rintro e w3 ⟨v3, rfl, hown3, b3⟩; obtain ⟨A3, c3, rfl, hr3, _, _⟩ := own_form hown3; have K3 := (show Below wc.heap.size wc wc.drew from (Below.refl _ _).drew).trans b3; obtain ⟨y0, y1, y2, y3, y4⟩ := (D4.keep K3).k.c5)
        | (go_simp; go_at_call 15; refine (write_good d4 D A3 c3 (sect 2 2) 0 w3 (D4.keep K3).d (by rw [HDn.out]; decide) hr3 (by rw [HDW.out]; decide)).mono ?_; rintro e w4 ⟨d5, he, hd4, b4⟩; unfold DV.v at he; subst he; have K4 := K3.trans (b4.mono K3.size); obtain ⟨z0, z1, z2, z3, z4⟩ := (D4.keep K4).k.c5; have zf := (D4.keep K4).k.fz))
      all_goals (
        obtain ⟨q1, q2⟩ := set5 (D4.keep K4).k rfl (.int .i64 d5.n) (.pointer d5.s) (.pointer d5.c) (.pointer d5.l) (.int .i64 d5.m)
        generalize ((((w4.setCell ⟨H, 0, none⟩ (.int .i64 d5.n)).setCell ⟨H, 1, none⟩ (.pointer d5.s)).setCell ⟨H, 2, none⟩ (.pointer d5.c)).setCell ⟨H, 3, none⟩ (.pointer d5.l)).setCell ⟨H, 4, none⟩ (.int .i64 d5.m) = w5 at q1 q2 ⊢
        have D5 := (D4.keep K4).put q1 q2 hd4
        have B5 := (B4.trans (K4.mono B4.size)).grown q2 (B4.trans (K4.mono B4.size)).size (fun k hk => by cases hk; exact hH)
        simp only [List.getElem_toArray, List.getElem_cons_succ, List.getElem_cons_zero]
        go_frame
        go_wp2_with fail
        go_meet
        case rel => exact ⟨d5, rfl, D5, B5⟩)
    case rest =>
      obtain ⟨d5, rfl, D5, B5⟩ := hcut
      clear x0 x1 x2 x3 x4 HS D4 B4
      obtain ⟨w5, rfl⟩ : ∃ wo : World, wo = wc := ⟨_, rfl⟩
      obtain ⟨E, hE⟩ : ∃ z, D.write 0 (sect 2 2) = z := ⟨_, rfl⟩
      rw [hE] at D5
      rw [← HD.out] at hE
      have HEn := hid (show E.n = 2 by rw [← hE]; rfl)
      have HEW := hid (show E.W.length = 2 by rw [← hE]; rfl)
      have H0 := hid (show (E.crash 0).cur 0 = sect 0 0 by rw [← hE]; rfl)
      have H1 := hid (show (E.crash 1).cur 0 = sect 1 1 by rw [← hE]; rfl)
      have H7 := hid (show (E.crash 7).cur 0 = sect 2 1 by rw [← hE]; rfl)
      clear hE HD HDn HDW
      obtain ⟨x0, x1, x2, x3, x4⟩ := D5.k.c5
      go_wp2_with fail
      have R1 := crash_any d5 E 0 w5 D5.d (by rw [HEW.out]; decide) (by decide)
      simp only [DV.v] at R1
      refine R1.mono ?_
      clear R1
      rintro e w6 ⟨c6, rfl, hc6, b6⟩
      have D6 := D5.keep b6
      have B6 := B5.trans (b6.mono B5.size)
      clear x0 x1 x2 x3 x4
      go_wp2_with fail
      have R2 := read_good c6 (E.crash 0) 0 w6 hc6 (by show 0 < E.n; rw [HEn.out]; decide)
      simp only [DV.v, show ((0 : Nat) : Int) = 0 from rfl] at R2
      rw [H0.out] at R2
      refine R2.mono ?_
      clear R2
      rintro e w7 ⟨g6, rfl, hown6, b7⟩
      have r6_7 : RB w7 (some ⟨g6, 0, none⟩) 128 (sect 0 0) := RL.of_own hown6
      have D7 := D6.keep b7
      have B7 := B6.trans (b7.mono B6.size)
      clear hown6 hc6 D6 b6 b7
      obtain ⟨x0, x1, x2, x3, x4⟩ := D7.k.c5
      go_wp2_with fail
      have R1 := crash_any d5 E 1 w7 D7.d (by rw [HEW.out]; decide) (by decide)
      simp only [DV.v] at R1
      refine R1.mono ?_
      clear R1
      rintro e w8 ⟨c8, rfl, hc8, b8⟩
      have D8 := D7.keep b8
      have B8 := B7.trans (b8.mono B7.size)
      have r6_8 := r6_7.below b8
      clear x0 x1 x2 x3 x4
      go_wp2_with fail
      have R2 := read_good c8 (E.crash 1) 0 w8 hc8 (by show 0 < E.n; rw [HEn.out]; decide)
      simp only [DV.v, show ((0 : Nat) : Int) = 0 from rfl] at R2
      rw [H1.out] at R2
      refine R2.mono ?_
      clear R2
      rintro e w9 ⟨g8, rfl, hown8, b9⟩
      have r8_9 : RB w9 (some ⟨g8, 0, none⟩) 128 (sect 1 1) := RL.of_own hown8
      have D9 := D8.keep b9
      have B9 := B8.trans (b9.mono B8.size)
      have r6_9 := r6_8.below b9
      clear hown8 hc8 D8 b8 b9
      obtain ⟨x0, x1, x2, x3, x4⟩ := D9.k.c5
      go_wp2_with fail
      have R1 := crash_any d5 E 7 w9 D9.d (by rw [HEW.out]; decide) (by decide)
      simp only [DV.v] at R1
      refine R1.mono ?_
      clear R1
      rintro e w10 ⟨c10, rfl, hc10, b10⟩
      have D10 := D9.keep b10
      have B10 := B9.trans (b10.mono B9.size)
      have r6_10 := r6_9.below b10
      have r8_10 := r8_9.below b10
      clear x0 x1 x2 x3 x4
      go_wp2_with fail
      have R2 := read_good c10 (E.crash 7) 0 w10 hc10 (by show 0 < E.n; rw [HEn.out]; decide)
      simp only [DV.v, show ((0 : Nat) : Int) = 0 from rfl] at R2
      rw [H7.out] at R2
      refine R2.mono ?_
      clear R2
      rintro e w11 ⟨g10, rfl, hown10, b11⟩
      have r10_11 : RB w11 (some ⟨g10, 0, none⟩) 128 (sect 2 1) := RL.of_own hown10
      have D11 := D10.keep b11
      have B11 := B10.trans (b11.mono B10.size)
      have r6_11 := r6_10.below b11
      have r8_11 := r8_10.below b11
      clear hown10 hc10 D10 b10 b11
      go_wp2_with fail
      refine (sector_any 0 0 w11).mono ?_
      rintro e w12 ⟨v12, rfl, hown12, b12⟩
      obtain ⟨A12, k12, rfl, q12, _, _⟩ := own_form hown12
      have D12 := D11.keep b12
      have B12 := B11.trans (b12.mono B11.size)
      have r6_12 := r6_11.below b12
      have r8_12 := r8_11.below b12
      have r10_12 := r10_11.below b12
      clear D11 b12 hown12
      go_wp2_with fail
      refine (equal_same _ _ _ _ _ _ _ _ r6_12 q12).mono ?_
      rintro e w13 ⟨rfl, rfl⟩
      go_wp2_with fail
      refine (sector_any 1 1 w12).mono ?_
      rintro e w13 ⟨v13, rfl, hown13, b13⟩
      obtain ⟨A13, k13, rfl, q13, _, _⟩ := own_form hown13
      have D13 := D12.keep b13
      have B13 := B12.trans (b13.mono B12.size)
      have r8_13 := r8_12.below b13
      have r10_13 := r10_12.below b13
      clear D12 b13 hown13
      go_wp2_with fail
      refine (equal_same _ _ _ _ _ _ _ _ r8_13 q13).mono ?_
      rintro e w14 ⟨rfl, rfl⟩
      go_wp2_with fail
      refine (sector_any 2 1 w13).mono ?_
      rintro e w14 ⟨v14, rfl, hown14, b14⟩
      obtain ⟨A14, k14, rfl, q14, _, _⟩ := own_form hown14
      have D14 := D13.keep b14
      have B14 := B13.trans (b14.mono B13.size)
      have r10_14 := r10_13.below b14
      have hm : ((d5.m : Nat) : Int) = 2 := by rw [D14.d.m, HEW.out]; rfl
      have hm2 : ((d5.m : Int) == 2) = true := by rw [beq_iff_eq]; exact hm
      clear D13 b14 hown14 hm
      go_wp2_with fail
      refine (equal_same _ _ _ _ _ _ _ _ r10_14 q14).mono ?_
      rintro e w15 ⟨rfl, rfl⟩
      obtain ⟨x0, x1, x2, x3, x4⟩ := D14.k.c5
      go_wp2_with fail
      have R9 := pending_any d5 w14
      simp only [DV.v] at R9
      refine R9.mono ?_
      rintro e w15 ⟨rfl, b15⟩
      go_wp2_with fail
      go_ret
      exact ⟨rfl, B14.trans (b15.mono B14.size)⟩
end Go.Proofs.Ythpalmncfcahkaa
