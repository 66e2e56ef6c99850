/- The walk of PageStores. Conditions: the table of remainders is laid; the acts read. -/
import Derived.Test.YtjaoipdmchofoaaDoorActOpen
import Derived.Test.YtjaoipdmchofoaaDoorSectors
import Derived.Test.YtjaoipdmchofoaaDoorApart
import Derived.Deep.CutBlock
import Derived.Deep.DeepCutAuto
set_option linter.unusedSimpArgs false
set_option linter.unusedVariables false
namespace Go.Proofs.YtjaoipdmchofoaaDoor
open Go.RowKit

theorem decoded_nil : (⟨0, 0, 0, [], (decoded []).err⟩ : Dec) = decoded [] := by rfl
set_option maxRecDepth 100000 in
set_option maxHeartbeats 4000000 in
theorem stores_walk (A : Option Addr) (n c : Nat) (X : List Ac) (w : World) (hT : Tab w) (hX : X.length = n) (hr : RL w 7 A n (X.flatMap Ac.cs)) (hok : ∀ x ∈ X, x.ok w) (hnc : n ≤ c) (hc : c ≤ 9223372036854775807) :
    Calls Tryd.prog 9 #[.slice A n c] w fun e w' => e = .returned (.bool true) ∧ Below w.heap.size w w' := by
  have HOK := hid hok
  have HX := hid hX
  clear hok hX
  by_cases hn : n ≤ 12
  rotate_left
  · have t1 : ((n : Int) > 12) := by omega
    have t2 : decide ((12 : Int) < (n : Int)) = true := by simp; omega
    go_enter Tryd.func9, Tryd.ntmps9
    go_wp2_with fail
    refine (new_ok 24 _ (by omega) (by omega)).mono ?_
    rintro e w1 ⟨rfl, b1⟩
    simp only [DV.v]
    go_wp2_with fail
    have hP : Blk (w1.alloc (.cells #[.int .i64 (24 : Nat), .pointer none, .pointer none, .pointer none, .int .i64 (0 : Nat)] 52)) w1.heap.size 52 [.int .i64 (24 : Nat), .pointer none, .pointer none, .pointer none, .int .i64 (0 : Nat)] := Blk.new w1 _ _
    have hB : Below w1.heap.size w1 (w1.alloc (.cells #[.int .i64 (24 : Nat), .pointer none, .pointer none, .pointer none, .int .i64 (0 : Nat)] 52)) := (Below.refl _ _).alloc (Nat.le_refl _) _
    have hS : (w1.alloc (.cells #[.int .i64 (24 : Nat), .pointer none, .pointer none, .pointer none, .int .i64 (0 : Nat)] 52)).heap.size = w1.heap.size + 1 := by simp
    generalize (w1.alloc (.cells #[.int .i64 (24 : Nat), .pointer none, .pointer none, .pointer none, .int .i64 (0 : Nat)] 52)) = w2 at hP hB hS ⊢
    have B2 := b1.trans (hB.mono b1.size)
    refine (awake_any _ (hT.keep B2)).mono ?_
    rintro e w3 ⟨rfl, b3⟩
    go_wp2_with fail
    go_ret
    exact ⟨rfl, B2.trans (b3.mono B2.size)⟩
  · have t1 : ¬ ((n : Int) > 12) := by omega
    have t2 : decide ((12 : Int) < (n : Int)) = false := by simp; omega
    go_enter Tryd.func9, Tryd.ntmps9
    go_wp2_with fail
    refine (new_ok 24 _ (by omega) (by omega)).mono ?_
    rintro e w1 ⟨rfl, b1⟩
    simp only [DV.v, show ((24 : Nat) : Int) = 24 from rfl, show ((0 : Nat) : Int) = 0 from rfl]
    go_wp2_with fail
    have hP : Blk (w1.alloc (.cells #[.int .i64 24, .pointer none, .pointer none, .pointer none, .int .i64 0] 52)) w1.heap.size 52 [.int .i64 24, .pointer none, .pointer none, .pointer none, .int .i64 0] := Blk.new w1 _ _
    have hB : Below w1.heap.size w1 (w1.alloc (.cells #[.int .i64 24, .pointer none, .pointer none, .pointer none, .int .i64 0] 52)) := (Below.refl _ _).alloc (Nat.le_refl _) _
    have hS : (w1.alloc (.cells #[.int .i64 24, .pointer none, .pointer none, .pointer none, .int .i64 0] 52)).heap.size = w1.heap.size + 1 := by simp
    generalize (w1.alloc (.cells #[.int .i64 24, .pointer none, .pointer none, .pointer none, .int .i64 0] 52)) = w2 at hP hB hS ⊢
    have B2 := b1.trans (hB.mono b1.size)
    have D2 : Bx w2 w1.heap.size ⟨24, none, none, none, 0⟩ (Dk.new 24) := ⟨hP, DkV.new w2 24 (by omega)⟩
    have hH : w.heap.size ≤ w1.heap.size := b1.size
    clear hB hP hS b1 t1 t2
    generalize w1.heap.size = G at *
    clear w1
    go_loopw [42] (fun i wr => ∃ (k : Nat) (d : DV) (D : Dk), k ≤ n ∧ i = .int .i64 k ∧ Bx wr G d D ∧ D.n = 24 ∧ D.W.length ≤ 8 * k ∧ Below w.heap.size w wr) (fun i _ => n - (intOf i).toNat)
    case atStart => exact ⟨0, _, _, by omega, rfl, D2, rfl, Nat.le_refl _, B2⟩
    case round =>
      obtain ⟨k, d, D, hk, rfl, Dr, hDn, hDW, hb⟩ := hrel
      clear D2 B2
      by_cases hlt : k < n
      · obtain ⟨b, off, x, rfl, hbb, hx, hcell⟩ := (hr.below hb).el (f := Ac.cs) (fun _ => rfl) hlt (by omega)
        have e0 := hcell 0 _ rfl
        have e1 := hcell 1 _ rfl
        have e2 := hcell 2 _ rfl
        have e3 := hcell 3 _ rfl
        have e4 := hcell 4 _ rfl
        have e5 := hcell 5 _ rfl
        have e6 := hcell 6 _ rfl
        have hxok := HOK.out x (List.mem_of_getElem? hx)
        rw [Nat.add_zero] at e0
        clear hcell
        obtain ⟨act, sec, ⟨pid, pst, pkd, pA, pn, pc, pl⟩, ch⟩ := x
        dsimp only at e0 e1 e2 e3 e4 e5 e6
        obtain ⟨x0, x1, x2, x3, x4⟩ := Dr.k.c5
        have hG := Dr.k.lt
        by_cases hbig : pn ≤ 1100
        rotate_left
        · have t1 : ((pn : Int) > 1100) := by omega
          go_wp2_with fail
          have hP : Blk (wr.alloc (.cells #[.int .u8 act, .int .i64 sec, .int .i64 pid, .int .u64 pst, .int .i64 pkd, .slice pA pn pc, .int .u64 ch] 64)) wr.heap.size 64 [.int .u8 act, .int .i64 sec, .int .i64 pid, .int .u64 pst, .int .i64 pkd, .slice pA pn pc, .int .u64 ch] := Blk.new wr _ _
          have hB : Below wr.heap.size wr (wr.alloc (.cells #[.int .u8 act, .int .i64 sec, .int .i64 pid, .int .u64 pst, .int .i64 pkd, .slice pA pn pc, .int .u64 ch] 64)) := (Below.refl _ _).alloc (Nat.le_refl _) _
          have hS : (wr.alloc (.cells #[.int .u8 act, .int .i64 sec, .int .i64 pid, .int .u64 pst, .int .i64 pkd, .slice pA pn pc, .int .u64 ch] 64)).heap.size = wr.heap.size + 1 := by simp
          generalize (wr.alloc (.cells #[.int .u8 act, .int .i64 sec, .int .i64 pid, .int .u64 pst, .int .i64 pkd, .slice pA pn pc, .int .u64 ch] 64)) = w3 at hP hB hS ⊢
          have B3 := hb.trans (hB.mono hb.size)
          refine (awake_any _ (hT.keep B3)).mono ?_
          rintro e w4 ⟨rfl, b4⟩
          go_wp2_with fail
          go_ret
          exact ⟨rfl, B3.trans (b4.mono B3.size)⟩
        · have t1 : ¬ ((pn : Int) > 1100) := by omega
          go_upto_block 2 with fail
          generalize hw1 : World.alloc (World.alloc wr _) _ = w4
          obtain ⟨ka, kn, hB⟩ := two_boxes_eq (cs1 := [.int .u8 act, .int .i64 sec, .int .i64 pid, .int .u64 pst, .int .i64 pkd, .slice pA pn pc, .int .u64 ch]) (cs2 := d.cs) hw1
          clear hw1 x0 x1 x2 x3 x4 e0 e1 e2 e3 e4 e5 e6
          have D4 := Dr.keep hB
          have B4 := hb.trans (hB.mono hb.size)
          have N4 : Bx w4 (wr.heap.size + 1) d D := ⟨kn, D4.d⟩
          have hG4 : G < wr.heap.size ∧ w.heap.size ≤ wr.heap.size := ⟨hG, hb.size⟩
          clear Dr hb hB kn hG
          generalize wr.heap.size = g at *
          clear wr
          go_cut [] (fun wx => ∃ (d' : DV) (D' : Dk), Bx wx G d D ∧ Bx wx (g + 1) d' D' ∧ D'.n = 24 ∧ D'.W.length ≤ 8 * (k + 1) ∧ Below w.heap.size w wx)
          case first =>
            obtain ⟨x0, x1, x2, x3, x4⟩ := D4.k.c5
            by_cases h2 : (act : Int) % 4 = 2
            · have t3 : ((act : Int) % 4 == 2) = true := by rw [beq_iff_eq]; exact h2
              clear h2
              go_wp2_with fail
              have S1 := sync_any d w4
              dsimp only [DV.v] at S1
              refine S1.mono ?_
              clear S1
              rintro e w5 ⟨rfl, b5⟩
              have D5 := D4.keep b5
              have N5 := N4.keep b5
              have B5 := B4.trans (b5.mono B4.size)
              go_wp2_with ((with_reducible refine is_store 52 ?_); refine wp_storeB (g + 1) _ _ d.sync.cs N5.k diskN rfl (dv_one _) rfl rfl ?_; intro w6 kn rn; go_frame)
              go_meet
              case rel => exact ⟨d.sync, D.sync, D5.other N5.k rn (by omega), N5.put kn rn D5.d.sync, hDn, Nat.zero_le _, B5.grown rn B5.size (fun q hq => by cases hq; omega)⟩
            have t3 : ((act : Int) % 4 == 2) = false := by rw [beq_eq_false_iff_ne]; exact h2
            by_cases h3 : (act : Int) % 4 = 3
            · have t4 : ((act : Int) % 4 == 3) = true := by rw [beq_iff_eq]; exact h3
              clear h3 h2
              obtain ⟨a0, a1, a2, a3, a4, a5, a6⟩ := ka.c7
              go_wp2_with fail
              have S1 := crash_any d D ch w4 D4.d (by omega) hxok.ch
              dsimp only [DV.v] at S1
              refine S1.mono ?_
              clear S1
              rintro e w5 ⟨d5, rfl, hd5, b5⟩
              have D5 := D4.keep b5
              have N5 := N4.keep b5
              have B5 := B4.trans (b5.mono B4.size)
              go_wp2_with ((with_reducible refine is_store 52 ?_); refine wp_storeB (g + 1) _ _ d5.cs N5.k diskN rfl (dv_one _) rfl rfl ?_; intro w6 kn rn; go_frame)
              go_meet
              case rel => exact ⟨d5, D.crash ch, D5.other N5.k rn (by omega), N5.put kn rn hd5, hDn, Nat.zero_le _, B5.grown rn B5.size (fun q hq => by cases hq; omega)⟩
            have t4 : ((act : Int) % 4 == 3) = false := by rw [beq_eq_false_iff_ne]; exact h3
            clear h2 h3
            obtain ⟨a0, a1, a2, a3, a4, a5, a6⟩ := ka.c7
            have hpg := hxok.pg
            have HPG := hid hpg
            obtain ⟨rbp, ncp, cmp, _, _, _, _, _⟩ := hpg
            dsimp only at ncp cmp
            by_cases hw : wrong pid pkd pn = 0
            rotate_left
            · have t5 : (wrong pid pkd pn == 0) = false := by rw [beq_eq_false_iff_ne]; exact hw
              have t6 : (wrong pid pkd pn != 0) = true := by rw [bne_iff_ne]; exact hw
              have t7 : (wrong pid pkd pn != wrong pid pkd pn) = false := by rw [bne_self_eq_false]
              go_wp2_with fail
              have R1 := pwrite_bad d ⟨pid, pst, pkd, pA, pn, pc, pl⟩ sec w4 (by show pn ≤ _; omega) hw
              dsimp only at R1
              simp only [DV.v, DV.zero, Pg.v, pageV, show ((0 : Nat) : Int) = 0 from rfl] at R1
              refine R1.mono ?_
              clear R1 hw
              rintro e w5 ⟨rfl, b5⟩
              have D5 := D4.keep b5
              have N5 := N4.keep b5
              have B5 := B4.trans (b5.mono B4.size)
              have ka5 := ka.keep b5
              clear a0 a1 a2 a3 a4 a5 a6 x0 x1 x2 x3 x4
              obtain ⟨a0, a1, a2, a3, a4, a5, a6⟩ := ka5.c7
              have hz5 := ka5.lt
              go_wp2_with fail
              have hP : Blk (w5.alloc (.cells #[.int .i64 0, .pointer none, .pointer none, .pointer none, .int .i64 0] 52)) w5.heap.size 52 [.int .i64 0, .pointer none, .pointer none, .pointer none, .int .i64 0] := Blk.new w5 _ _
              have hB : Below w5.heap.size w5 (w5.alloc (.cells #[.int .i64 0, .pointer none, .pointer none, .pointer none, .int .i64 0] 52)) := (Below.refl _ _).alloc (Nat.le_refl _) _
              have hS : (w5.alloc (.cells #[.int .i64 0, .pointer none, .pointer none, .pointer none, .int .i64 0] 52)).heap.size = w5.heap.size + 1 := by simp
              generalize (w5.alloc (.cells #[.int .i64 0, .pointer none, .pointer none, .pointer none, .int .i64 0] 52)) = w6 at hP hB hS ⊢
              have D6 := D5.keep hB
              have N6 := N5.keep hB
              have B6 := B5.trans (hB.mono B5.size)
              refine (wrong_any pid pkd pst pA pn pc w6 (by omega)).mono ?_
              rintro e w7 ⟨rfl, b7⟩
              have D7 := D6.keep b7
              have N7 := N6.keep b7
              have B7 := B6.trans (b7.mono B6.size)
              clear a0 a1 a2 a3 a4 a5 a6
              obtain ⟨a0, a1, a2, a3, a4, a5, a6⟩ := ((ka5.keep hB).keep b7).c7
              go_wp2_with fail
              (refine wp_region_ext (by kernel_rfl) (by kernel_rfl) ?_; (repeat (go_big_quiet_step ((fail)))); refine wpQuiet_nil ?_; rintro _ ⟨z, rfl⟩)
              have D8 := D7.keep z.h
              have N8 := N7.keep z.h
              have B8 := B7.trans (z.h.mono B7.size)
              go_wp2_with fail
              go_meet
              case rel => exact ⟨d, D, D8, N8, hDn, by omega, B8⟩
            by_cases hsec : sec < 0 ∨ 16 < sec
            · have t5 : (wrong pid pkd pn == 0) = true := by rw [beq_iff_eq]; exact hw
              go_wp2_with fail
              have R1 := pwrite_range d ⟨pid, pst, pkd, pA, pn, pc, pl⟩ sec w4 (hT.keep B4) (HPG.out.below B4) hw (by rw [D4.d.n, hDn]; omega) (by rw [D4.d.n]; exact D4.d.hn) hxok.s0 hxok.s1
              simp only [DV.v, DV.zero, Pg.v, pageV, show ((0 : Nat) : Int) = 0 from rfl] at R1
              refine R1.mono ?_
              clear R1
              rintro e w5 ⟨rfl, b5⟩
              have D5 := D4.keep b5
              have N5 := N4.keep b5
              have B5 := B4.trans (b5.mono B4.size)
              have ka5 := ka.keep b5
              clear a0 a1 a2 a3 a4 a5 a6 x0 x1 x2 x3 x4
              obtain ⟨a0, a1, a2, a3, a4, a5, a6⟩ := ka5.c7
              have hz5 := ka5.lt
              go_wp2_with fail
              have hP : Blk (w5.alloc (.cells #[.int .i64 0, .pointer none, .pointer none, .pointer none, .int .i64 0] 52)) w5.heap.size 52 [.int .i64 0, .pointer none, .pointer none, .pointer none, .int .i64 0] := Blk.new w5 _ _
              have hB : Below w5.heap.size w5 (w5.alloc (.cells #[.int .i64 0, .pointer none, .pointer none, .pointer none, .int .i64 0] 52)) := (Below.refl _ _).alloc (Nat.le_refl _) _
              have hS : (w5.alloc (.cells #[.int .i64 0, .pointer none, .pointer none, .pointer none, .int .i64 0] 52)).heap.size = w5.heap.size + 1 := by simp
              generalize (w5.alloc (.cells #[.int .i64 0, .pointer none, .pointer none, .pointer none, .int .i64 0] 52)) = w6 at hP hB hS ⊢
              have D6 := D5.keep hB
              have N6 := N5.keep hB
              have B6 := B5.trans (hB.mono B5.size)
              refine (wrong_any pid pkd pst pA pn pc w6 (by omega)).mono ?_
              rw [hw]
              rintro e w7 ⟨rfl, b7⟩
              have D7 := D6.keep b7
              have N7 := N6.keep b7
              have B7 := B6.trans (b7.mono B6.size)
              clear a0 a1 a2 a3 a4 a5 a6
              obtain ⟨a0, a1, a2, a3, a4, a5, a6⟩ := ((ka5.keep hB).keep b7).c7
              by_cases hs0 : sec < 0
              · go_wp2_with fail
                (refine wp_region_ext (by kernel_rfl) (by kernel_rfl) ?_; (repeat (go_big_quiet_step ((fail)))); refine wpQuiet_nil ?_; rintro _ ⟨z, rfl⟩)
                have D8 := D7.keep z.h
                have N8 := N7.keep z.h
                have B8 := B7.trans (z.h.mono B7.size)
                go_wp2_with fail
                go_meet
                case rel => exact ⟨d, D, D8, N8, hDn, by omega, B8⟩
              · have hs1 : sec > 16 := by omega
                go_wp2_with fail
                (refine wp_region_ext (by kernel_rfl) (by kernel_rfl) ?_; (repeat (go_big_quiet_step ((fail)))); refine wpQuiet_nil ?_; rintro _ ⟨z, rfl⟩)
                have D8 := D7.keep z.h
                have N8 := N7.keep z.h
                have B8 := B7.trans (z.h.mono B7.size)
                go_wp2_with fail
                go_meet
                case rel => exact ⟨d, D, D8, N8, hDn, by omega, B8⟩
            have hs0 : 0 ≤ sec := by omega
            have hs1 : sec ≤ 16 := by omega
            clear hsec
            obtain ⟨sn, rfl⟩ : ∃ m : Nat, sec = m := ⟨sec.toNat, by omega⟩
            have hs2 : sn ≤ 16 := by omega
            have HW := hid hw
            obtain ⟨pi, pk, rfl, rfl, q1, q2, q3⟩ := right_of hw
            clear hw hs1
            go_wp2_with fail
            have R1 := pwrite_good d D ⟨pi, pst, pk, pA, pn, pc, pl⟩ sn w4 (hT.keep B4) D4.d (HPG.out.below B4) pi pk rfl q1 rfl q2 q3 (by rw [hDn]; omega) (by omega)
            simp only [DV.v, Pg.v, pageV] at R1
            obtain ⟨E, hE⟩ : ∃ z, encoded pi pst pk pl = z := ⟨_, rfl⟩
            rw [hE] at R1
            have hEl : E.length = 1024 := by rw [← hE]; exact enc_len _ _ _ _ (by rw [rbp.len]; omega)
            have HE := hid hE
            have HEl := hid hEl
            clear hE hEl
            obtain ⟨X, hX⟩ : ∃ z, put D sn E 8 = z := ⟨_, rfl⟩
            rw [hX] at R1
            have hXn : X.n = D.n := by rw [← hX]; exact put_n _ _ _ 8
            have hXW : X.W.length = D.W.length + 8 := by rw [← hX]; exact put_W _ _ _ 8
            have HX' := hid hX
            clear hX
            refine R1.mono ?_
            clear R1
            rintro e w5 ⟨d5, rfl, hd5, b5⟩
            have D5 := D4.keep b5
            have N5 := N4.keep b5
            have B5 := B4.trans (b5.mono B4.size)
            have ka5 := ka.keep b5
            clear a0 a1 a2 a3 a4 a5 a6 x0 x1 x2 x3 x4
            obtain ⟨a0, a1, a2, a3, a4, a5, a6⟩ := ka5.c7
            have hz5 := ka5.lt
            go_wp2_with fail
            have hP : Blk (w5.alloc (.cells #[.int .i64 d5.n, .pointer d5.s, .pointer d5.c, .pointer d5.l, .int .i64 d5.m] 52)) w5.heap.size 52 [.int .i64 d5.n, .pointer d5.s, .pointer d5.c, .pointer d5.l, .int .i64 d5.m] := Blk.new w5 _ _
            have hB : Below w5.heap.size w5 (w5.alloc (.cells #[.int .i64 d5.n, .pointer d5.s, .pointer d5.c, .pointer d5.l, .int .i64 d5.m] 52)) := (Below.refl _ _).alloc (Nat.le_refl _) _
            have hS : (w5.alloc (.cells #[.int .i64 d5.n, .pointer d5.s, .pointer d5.c, .pointer d5.l, .int .i64 d5.m] 52)).heap.size = w5.heap.size + 1 := by simp
            generalize (w5.alloc (.cells #[.int .i64 d5.n, .pointer d5.s, .pointer d5.c, .pointer d5.l, .int .i64 d5.m] 52)) = w6 at hP hB hS ⊢
            have D6 := D5.keep hB
            have N6 := N5.keep hB
            have X6 : Bx w6 w5.heap.size d5 X := ⟨hP, hd5.keep hB⟩
            have B6 := B5.trans (hB.mono B5.size)
            refine (wrong_any pi pk pst pA pn pc w6 (by omega)).mono ?_
            rw [HW.out]
            rintro e w7 ⟨rfl, b7⟩
            have D7 := D6.keep b7
            have N7 := N6.keep b7
            have X7 := X6.keep b7
            have B7 := B6.trans (b7.mono B6.size)
            have ka7 := (ka5.keep hB).keep b7
            clear a0 a1 a2 a3 a4 a5 a6 D5 N5 D6 N6 X6 B5 B6 hB hP hS ka5 b5 b7 hd5
            obtain ⟨a0, a1, a2, a3, a4, a5, a6⟩ := ka7.c7
            generalize w5.heap.size = gx at *
            go_wp2_with fail
            have g1 : ∀ x : Ext w7, x.w.cell? ⟨gx, 0, none⟩ = some (.int .i64 d5.n) ∧ x.w.cell? ⟨gx, 1, none⟩ = some (.pointer d5.s) ∧ x.w.cell? ⟨gx, 2, none⟩ = some (.pointer d5.c) ∧ x.w.cell? ⟨gx, 3, none⟩ = some (.pointer d5.l) ∧ x.w.cell? ⟨gx, 4, none⟩ = some (.int .i64 d5.m) := fun x => (X7.k.keep x.h).c5
            have g2 : ∀ x : Ext w7, x.w.cell? ⟨G, 0, none⟩ = some (.int .i64 d.n) ∧ x.w.cell? ⟨G, 1, none⟩ = some (.pointer d.s) ∧ x.w.cell? ⟨G, 2, none⟩ = some (.pointer d.c) ∧ x.w.cell? ⟨G, 3, none⟩ = some (.pointer d.l) ∧ x.w.cell? ⟨G, 4, none⟩ = some (.int .i64 d.m) := fun x => (D7.k.keep x.h).c5
            have g10 := fun x => (g1 x).1
            have g11 := fun x => (g1 x).2.1
            have g12 := fun x => (g1 x).2.2.1
            have g13 := fun x => (g1 x).2.2.2.1
            have g14 := fun x => (g1 x).2.2.2.2
            have g20 := fun x => (g2 x).1
            have g21 := fun x => (g2 x).2.1
            have g22 := fun x => (g2 x).2.2.1
            have g23 := fun x => (g2 x).2.2.2.1
            have g24 := fun x => (g2 x).2.2.2.2
            have S1 := fun x : Ext w7 => pending_any d5 x.w
            have S2 := fun x : Ext w7 => pending_any d x.w
            dsimp only [DV.v] at S1 S2
            have HS := hid (And.intro S1 S2)
            have hdm : d.m ≤ 8 * k := by rw [D7.d.m]; exact hDW
            have hd5m : (d5.m : Int) = (d.m : Int) + 8 := by rw [D7.d.m, X7.d.m, hXW]; omega
            have e2 := IntWalk.i64_in ((d.m : Int) + 8) (by omega)
            have e1 : ((d5.m : Int) != (d.m : Int) + 8) = false := by rw [bne_eq_false_iff_eq]; exact hd5m
            clear g1 g2 S1 S2 hd5m
            (refine wp_region_ext (by kernel_rfl) (by kernel_rfl) ?_; (repeat (go_big_quiet_step ((first | with_reducible exact Ext.calls _ (HS.out.1 _) | with_reducible exact Ext.calls _ (HS.out.2 _))))); refine wpQuiet_nil ?_; rintro _ ⟨z, rfl⟩)
            clear g10 g11 g12 g13 g14 g20 g21 g22 g23 g24 HS e1 e2
            have D8 := D7.keep z.h
            have N8 := N7.keep z.h
            have X8 := X7.keep z.h
            have B8 := B7.trans (z.h.mono B7.size)
            have ka8 := ka7.keep z.h
            clear a0 a1 a2 a3 a4 a5 a6 D7 N7 X7 B7 ka7
            generalize z.w = w8 at *
            clear z
            obtain ⟨a0, a1, a2, a3, a4, a5, a6⟩ := ka8.c7
            obtain ⟨y0, y1, y2, y3, y4⟩ := X8.k.c5
            have hz8 := X8.k.lt
            have hzg := ka8.lt
            go_wp2_with fail
            have hs3 : sn + 8 ≤ X.n := by rw [hXn, hDn]; omega
            have R2 := pread_enc d5 X sn w8 pi pst pk pl (hT.keep B8) X8.d hs3 (by rw [HE.out, ← HX'.out]; exact secs_put D sn E HEl.out) q1 q2 (by rw [rbp.len]; omega) HPG.out.s
            dsimp only [DV.v] at R2
            refine R2.mono ?_
            clear R2
            rintro e w9 ⟨p9, rfl, hp9, b9⟩
            have D9 := D8.keep b9
            have N9 := N8.keep b9
            have X9 := X8.keep b9
            have B9 := B8.trans (b9.mono B8.size)
            have ka9 := ka8.keep b9
            clear a0 a1 a2 a3 a4 a5 a6 y0 y1 y2 y3 y4 D8 N8 X8 B8 ka8 b9 hz8 hzg
            obtain ⟨a0, a1, a2, a3, a4, a5, a6⟩ := ka9.c7
            have hz9 := X9.k.lt
            have hzg := ka9.lt
            simp only [Pg.v, pageV]
            go_wp2_with fail
            have hP : Blk (w9.alloc (.cells #[.int .i64 p9.id, .int .u64 p9.stamp, .int .i64 p9.kind, .slice p9.A p9.n p9.c] 25)) w9.heap.size 25 [.int .i64 p9.id, .int .u64 p9.stamp, .int .i64 p9.kind, .slice p9.A p9.n p9.c] := Blk.new w9 _ _
            have hB : Below w9.heap.size w9 (w9.alloc (.cells #[.int .i64 p9.id, .int .u64 p9.stamp, .int .i64 p9.kind, .slice p9.A p9.n p9.c] 25)) := (Below.refl _ _).alloc (Nat.le_refl _) _
            have hS : (w9.alloc (.cells #[.int .i64 p9.id, .int .u64 p9.stamp, .int .i64 p9.kind, .slice p9.A p9.n p9.c] 25)).heap.size = w9.heap.size + 1 := by simp
            generalize (w9.alloc (.cells #[.int .i64 p9.id, .int .u64 p9.stamp, .int .i64 p9.kind, .slice p9.A p9.n p9.c] 25)) = w10 at hP hB hS ⊢
            have D10 := D9.keep hB
            have N10 := N9.keep hB
            have X10 := X9.keep hB
            have B10 := B9.trans (hB.mono B9.size)
            have ka10 := ka9.keep hB
            have hp10 := hp9.below hB
            clear a0 a1 a2 a3 a4 a5 a6 D9 N9 X9 B9 ka9 hp9 hB hP hS
            have R3 := same_reads p9 ⟨pi, pst, pk, pA, pn, pc, pl⟩ ⟨pi, pst, pk, pl, 0⟩ w10 hp10 ⟨HPG.out.below B10, rfl, rfl, rfl, rfl⟩
            refine R3.mono ?_
            clear R3
            rintro e w11 ⟨rfl, b11⟩
            have D11 := D10.keep b11
            have N11 := N10.keep b11
            have X11 := X10.keep b11
            have B11 := B10.trans (b11.mono B10.size)
            have ka11 := ka10.keep b11
            clear D10 N10 X10 B10 ka10 hp10 b11 hz9 hzg
            obtain ⟨x0, x1, x2, x3, x4⟩ := D11.k.c5
            obtain ⟨y0, y1, y2, y3, y4⟩ := X11.k.c5
            obtain ⟨a0, a1, a2, a3, a4, a5, a6⟩ := ka11.c7
            go_wp2_with fail
            clear a0 a1 a2 a3 a4 a5 a6 x0 x1 x2 x3 x4 y0 y1 y2 y3 y4
            go_loopw [113] (fun i wr => ∃ q : Nat, q ≤ 24 ∧ i = .int .i64 q ∧ Below w11.heap.size w11 wr) (fun i _ => 24 - (intOf i).toNat)
            case atStart => exact ⟨0, by omega, rfl, Below.refl _ _⟩
            case round =>
              obtain ⟨q, hq, rfl, hb11⟩ := hrel
              have D12 := D11.keep hb11
              have X12 := X11.keep hb11
              have ka12 := ka11.keep hb11
              by_cases hlt : q < 24
              · obtain ⟨x0, x1, x2, x3, x4⟩ := D12.k.c5
                go_wp2_with fail
                have R4 := read_good d D q wr D12.d (by rw [hDn]; exact hlt)
                dsimp only [DV.v] at R4
                refine R4.mono ?_
                clear R4
                rintro e w13 ⟨gu, rfl, hown, b13⟩
                have hu : RB w13 (some ⟨gu, 0, none⟩) 128 (D.cur q) := RL.of_own hown
                have X13 := X12.keep b13
                have ka13 := ka12.keep b13
                have hb13 := hb11.trans (b13.mono hb11.size)
                clear x0 x1 x2 x3 x4 D12 X12 ka12 hown b13
                obtain ⟨y0, y1, y2, y3, y4⟩ := X13.k.c5
                go_wp2_with fail
                have R5 := read_good d5 X q w13 X13.d (by rw [hXn, hDn]; exact hlt)
                dsimp only [DV.v] at R5
                refine R5.mono ?_
                clear R5
                rintro e w14 ⟨gv, rfl, hown, b14⟩
                have hv : RB w14 (some ⟨gv, 0, none⟩) 128 (X.cur q) := RL.of_own hown
                have hu14 := hu.below b14
                have ka14 := ka13.keep b14
                have hb14 := hb13.trans (b14.mono hb13.size)
                clear y0 y1 y2 y3 y4 X13 ka13 hown b14 hb13 hu
                obtain ⟨a0, a1, a2, a3, a4, a5, a6⟩ := ka14.c7
                by_cases h1 : q < sn
                · have hc : X.cur q = D.cur q := by rw [← HX'.out, put_cur, if_neg (by omega)]
                  rw [hc] at hv
                  generalize D.cur q = U at hv hu14
                  clear hc
                  have R6 := equal_any _ _ 128 128 128 128 _ _ _ hu14 hv
                  rw [show (U == U) = true from beq_self_eq_true U] at R6
                  go_wp2_with fail
                  refine R6.mono ?_
                  rintro e w15 ⟨rfl, rfl⟩
                  go_wp2_with fail
                  go_roundw
                  case measure => simp [intOf]; omega
                  case rel => exact ⟨q + 1, by omega, by go_num, hb14⟩
                · by_cases h2 : sn + 8 ≤ q
                  · have hc : X.cur q = D.cur q := by rw [← HX'.out, put_cur, if_neg (by omega)]
                    rw [hc] at hv
                    generalize D.cur q = U at hv hu14
                    clear hc
                    have R6 := equal_any _ _ 128 128 128 128 _ _ _ hu14 hv
                    rw [show (U == U) = true from beq_self_eq_true U] at R6
                    go_wp2_with fail
                    refine R6.mono ?_
                    rintro e w15 ⟨rfl, rfl⟩
                    go_wp2_with fail
                    go_roundw
                    case measure => simp [intOf]; omega
                    case rel => exact ⟨q + 1, by omega, by go_num, hb14⟩
                  · go_wp2_with fail
                    go_roundw
                    case measure => simp [intOf]; omega
                    case rel => exact ⟨q + 1, by omega, by go_num, hb14⟩
              · obtain rfl : q = 24 := by omega
                have N12 := N11.keep hb11
                have B12 := B11.trans (hb11.mono B11.size)
                obtain ⟨y0, y1, y2, y3, y4⟩ := X12.k.c5
                go_wp2_with ((with_reducible refine is_store 52 ?_); refine wp_storeB (g + 1) _ _ d5.cs N12.k diskN rfl (dv_one _) rfl rfl ?_; intro w6 kn rn; go_frame)
                go_meet
                case rel => exact ⟨d5, X, D12.other N12.k rn (by omega), N12.put kn rn X12.d, hXn.trans hDn, by rw [hXW]; omega, B12.grown rn B12.size (fun q hq => by cases hq; omega)⟩
          case rest =>
            obtain ⟨d2, D2, Dc, Nc, hn2, hW2, Bc⟩ := hcut
            obtain ⟨x0, x1, x2, x3, x4⟩ := Nc.k.c5
            go_wp2_with ((with_reducible refine is_store 52 ?_); refine wp_storeB G _ _ d2.cs Dc.k diskN rfl (dv_one _) rfl rfl ?_; intro w6 kn rn; go_frame)
            have D6 : Bx w6 G d2 D2 := Dc.put kn rn Nc.d
            have B6 := Bc.grown rn Bc.size (fun q hq => by cases hq; omega)
            clear x0 x1 x2 x3 x4 Dc Nc kn rn ka D4 N4 B4 Bc
            go_loopw [18] (fun i wr => ∃ f : Int, -1 ≤ f ∧ f ≤ 18 ∧ i = .int .i64 f ∧ Below w6.heap.size w6 wr) (fun i _ => (18 - intOf i).toNat)
            case atStart => exact ⟨-1, by omega, by omega, rfl, Below.refl _ _⟩
            case round =>
              obtain ⟨f, hf1, hf2, rfl, hb6⟩ := hrel
              have D7 := D6.keep hb6
              have B7 := B6.trans (hb6.mono B6.size)
              by_cases hf : f ≤ 17
              · obtain ⟨x0, x1, x2, x3, x4⟩ := D7.k.c5
                by_cases hin : 0 ≤ f ∧ f + 8 ≤ 24
                · obtain ⟨fn, rfl⟩ : ∃ m : Nat, f = m := ⟨f.toNat, by omega⟩
                  go_wp2_with fail
                  have R1 := pread_good d2 D2 fn wr (hT.keep B7) D7.d (by rw [hn2]; omega)
                  dsimp only [DV.v] at R1
                  obtain ⟨dc, hdc⟩ : ∃ z, decoded (secs D2.cur fn 8) = z := ⟨_, rfl⟩
                  rw [hdc] at R1
                  have HDC := hid hdc
                  clear hdc
                  refine R1.mono ?_
                  clear R1
                  rintro e w8 ⟨p8, rfl, hp8, b8⟩
                  have D8 := D7.keep b8
                  have B8 := B7.trans (b8.mono B7.size)
                  have hb8 := hb6.trans (b8.mono hb6.size)
                  clear x0 x1 x2 x3 x4 D7 B7 b8 hb6
                  obtain ⟨x0, x1, x2, x3, x4⟩ := D8.k.c5
                  have hz8 := D8.k.lt
                  simp only [Pg.v, pageV]
                  go_wp2_with fail
                  have hP : Blk (w8.alloc (.cells #[.int .i64 p8.id, .int .u64 p8.stamp, .int .i64 p8.kind, .slice p8.A p8.n p8.c] 25)) w8.heap.size 25 [.int .i64 p8.id, .int .u64 p8.stamp, .int .i64 p8.kind, .slice p8.A p8.n p8.c] := Blk.new w8 _ _
                  have hB : Below w8.heap.size w8 (w8.alloc (.cells #[.int .i64 p8.id, .int .u64 p8.stamp, .int .i64 p8.kind, .slice p8.A p8.n p8.c] 25)) := (Below.refl _ _).alloc (Nat.le_refl _) _
                  have hS : (w8.alloc (.cells #[.int .i64 p8.id, .int .u64 p8.stamp, .int .i64 p8.kind, .slice p8.A p8.n p8.c] 25)).heap.size = w8.heap.size + 1 := by simp
                  generalize (w8.alloc (.cells #[.int .i64 p8.id, .int .u64 p8.stamp, .int .i64 p8.kind, .slice p8.A p8.n p8.c] 25)) = w9 at hP hB hS ⊢
                  have D9 := D8.keep hB
                  have B9 := B8.trans (hB.mono B8.size)
                  have hb9 := hb8.trans (hB.mono hb8.size)
                  have hp9 := hp8.below hB
                  clear x0 x1 x2 x3 x4 D8 B8 hb8 hp8 hB hS hz8
                  have R2 := lawSectors_any d2 D2 fn w9 D9.d (by omega) (by omega)
                  dsimp only [DV.v] at R2
                  refine R2.mono ?_
                  clear R2
                  rintro e w10 ⟨⟨_, A10, c10, rfl, hr10, hc10, hm10⟩ | ⟨hno, _⟩, b10⟩
                  rotate_left
                  · exact absurd (by rw [hn2]; omega) hno
                  rw [Int.toNat_natCast] at hr10
                  have D10 := D9.keep b10
                  have B10 := B9.trans (b10.mono B9.size)
                  have hb10 := hb9.trans (b10.mono hb9.size)
                  have hp10 := hp9.below b10
                  have k10 := hP.keep b10
                  clear D9 B9 hb9 hp9 b10 hP
                  go_wp2_with fail
                  have R3 := decode_any A10 1024 c10 _ w10 (hT.keep B10) hr10 hc10 hm10
                  rw [HDC.out] at R3
                  refine R3.mono ?_
                  clear R3
                  rintro e w11 ⟨q11, rfl, hq11, b11⟩
                  have D11 := D10.keep b11
                  have B11 := B10.trans (b11.mono B10.size)
                  have hb11 := hb10.trans (b11.mono hb10.size)
                  have hp11 := hp10.below b11
                  have k11 := k10.keep b11
                  clear D10 B10 hb10 hp10 b11 k10 hr10
                  obtain ⟨z0, z1, z2, z3⟩ := k11.c4
                  have hz11 := k11.lt
                  have t8 : (dc.err != dc.err) = false := by rw [bne_self_eq_false]
                  simp only [Pg.v, pageV]
                  go_wp2_with fail
                  have hP : Blk (w11.alloc (.cells #[.int .i64 q11.id, .int .u64 q11.stamp, .int .i64 q11.kind, .slice q11.A q11.n q11.c] 25)) w11.heap.size 25 [.int .i64 q11.id, .int .u64 q11.stamp, .int .i64 q11.kind, .slice q11.A q11.n q11.c] := Blk.new w11 _ _
                  have hB : Below w11.heap.size w11 (w11.alloc (.cells #[.int .i64 q11.id, .int .u64 q11.stamp, .int .i64 q11.kind, .slice q11.A q11.n q11.c] 25)) := (Below.refl _ _).alloc (Nat.le_refl _) _
                  have hS : (w11.alloc (.cells #[.int .i64 q11.id, .int .u64 q11.stamp, .int .i64 q11.kind, .slice q11.A q11.n q11.c] 25)).heap.size = w11.heap.size + 1 := by simp
                  generalize (w11.alloc (.cells #[.int .i64 q11.id, .int .u64 q11.stamp, .int .i64 q11.kind, .slice q11.A q11.n q11.c] 25)) = w12 at hP hB hS ⊢
                  have B12 := B11.trans (hB.mono B11.size)
                  have hb12 := hb11.trans (hB.mono hb11.size)
                  refine (same_reads p8 q11 dc w12 (hp11.below hB) (hq11.below hB)).mono ?_
                  rintro e w13 ⟨rfl, b13⟩
                  have hb13 := hb12.trans (b13.mono hb12.size)
                  go_wp2_with fail
                  go_roundw
                  case measure => simp [intOf]; omega
                  case rel => exact ⟨(fn : Int) + 1, by omega, by omega, rfl, hb13⟩
                · go_wp2_with fail
                  have R1 := pread_bad d2 f wr (by rw [D7.d.n, hn2]; omega) (by rw [D7.d.n]; exact D7.d.hn) (by omega) (by omega)
                  simp only [DV.v, noPg, Pg.v, pageV, show ((0 : Nat) : Int) = 0 from rfl] at R1
                  refine R1.mono ?_
                  clear R1
                  rintro e w8 ⟨rfl, b8⟩
                  have D8 := D7.keep b8
                  have B8 := B7.trans (b8.mono B7.size)
                  have hb8 := hb6.trans (b8.mono hb6.size)
                  clear x0 x1 x2 x3 x4 D7 B7 b8 hb6
                  obtain ⟨x0, x1, x2, x3, x4⟩ := D8.k.c5
                  have hz8 := D8.k.lt
                  go_wp2_with fail
                  have hP : Blk (w8.alloc (.cells #[.int .i64 0, .int .u64 0, .int .i64 0, .slice none 0 0] 25)) w8.heap.size 25 [.int .i64 0, .int .u64 0, .int .i64 0, .slice none 0 0] := Blk.new w8 _ _
                  have hB : Below w8.heap.size w8 (w8.alloc (.cells #[.int .i64 0, .int .u64 0, .int .i64 0, .slice none 0 0] 25)) := (Below.refl _ _).alloc (Nat.le_refl _) _
                  have hS : (w8.alloc (.cells #[.int .i64 0, .int .u64 0, .int .i64 0, .slice none 0 0] 25)).heap.size = w8.heap.size + 1 := by simp
                  generalize (w8.alloc (.cells #[.int .i64 0, .int .u64 0, .int .i64 0, .slice none 0 0] 25)) = w9 at hP hB hS ⊢
                  have D9 := D8.keep hB
                  have B9 := B8.trans (hB.mono B8.size)
                  have hb9 := hb8.trans (hB.mono hb8.size)
                  clear x0 x1 x2 x3 x4 D8 B8 hb8 hB hS hz8
                  have R2 := lawSectors_any d2 D2 f w9 D9.d (by omega) (by omega)
                  dsimp only [DV.v] at R2
                  refine R2.mono ?_
                  clear R2
                  rintro e w10 ⟨⟨hno, _⟩ | ⟨_, rfl⟩, b10⟩
                  · exact absurd (by rw [hn2] at hno; omega) hin
                  have D10 := D9.keep b10
                  have B10 := B9.trans (b10.mono B9.size)
                  have hb10 := hb9.trans (b10.mono hb9.size)
                  have k10 := hP.keep b10
                  clear D9 B9 hb9 b10 hP
                  go_wp2_with fail
                  refine (decode_any none 0 0 [] w10 (hT.keep B10) (RB.nil _ _) (Nat.le_refl _) (by omega)).mono ?_
                  rintro e w11 ⟨q11, rfl, hq11, b11⟩
                  have D11 := D10.keep b11
                  have B11 := B10.trans (b11.mono B10.size)
                  have hb11 := hb10.trans (b11.mono hb10.size)
                  have k11 := k10.keep b11
                  clear D10 B10 hb10 b11 k10
                  obtain ⟨z0, z1, z2, z3⟩ := k11.c4
                  have hz11 := k11.lt
                  simp only [Pg.v, pageV]
                  go_wp2_with fail
                  have hP : Blk (w11.alloc (.cells #[.int .i64 q11.id, .int .u64 q11.stamp, .int .i64 q11.kind, .slice q11.A q11.n q11.c] 25)) w11.heap.size 25 [.int .i64 q11.id, .int .u64 q11.stamp, .int .i64 q11.kind, .slice q11.A q11.n q11.c] := Blk.new w11 _ _
                  have hB : Below w11.heap.size w11 (w11.alloc (.cells #[.int .i64 q11.id, .int .u64 q11.stamp, .int .i64 q11.kind, .slice q11.A q11.n q11.c] 25)) := (Below.refl _ _).alloc (Nat.le_refl _) _
                  have hS : (w11.alloc (.cells #[.int .i64 q11.id, .int .u64 q11.stamp, .int .i64 q11.kind, .slice q11.A q11.n q11.c] 25)).heap.size = w11.heap.size + 1 := by simp
                  generalize (w11.alloc (.cells #[.int .i64 q11.id, .int .u64 q11.stamp, .int .i64 q11.kind, .slice q11.A q11.n q11.c] 25)) = w12 at hP hB hS ⊢
                  have hb12 := hb11.trans (hB.mono hb11.size)
                  refine (same_reads noPg q11 (decoded []) w12 (decoded_nil ▸ noReads w12 _) (hq11.below hB)).mono ?_
                  rintro e w13 ⟨rfl, b13⟩
                  have hb13 := hb12.trans (b13.mono hb12.size)
                  go_wp2_with fail
                  go_roundw
                  case measure => simp [intOf]; omega
                  case rel => exact ⟨f + 1, by omega, by omega, rfl, hb13⟩
              · obtain rfl : f = 18 := by omega
                go_wp2_with fail
                go_roundw
                case measure => simp [intOf]; omega
                case rel => exact ⟨k + 1, d2, D2, by omega, by go_num, D7, hn2, hW2, B7⟩
      · obtain rfl : k = n := by omega
        go_wp2_with fail
        refine (awake_any _ (hT.keep hb)).mono ?_
        rintro e w3 ⟨rfl, b3⟩
        go_wp2_with fail
        go_ret
        exact ⟨rfl, hb.trans (b3.mono hb.size)⟩
end Go.Proofs.YtjaoipdmchofoaaDoor
