/- The walk of WalTorn, every argument. Conditions: the table of remainders is laid; the acts read. -/
import Derived.Test.YtlokfndonjldpaaDoorAwake
import Derived.Test.YtlokfndonjldpaaDoorLawS
import Derived.Test.YtlokfndonjldpaaDoorRefRec
import Derived.Test.YtlokfndonjldpaaDoorIs
import Derived.Deep.QuietTactic
import Derived.BigQuiet
import Derived.Deep.Cut
import Derived.Deep.CutBlock
import Derived.Deep.DeepCutAuto
set_option linter.unusedSimpArgs false
set_option linter.unusedVariables false
namespace Go.Proofs.YtlokfndonjldpaaDoor
open Go.RowKit

set_option maxRecDepth 100000 in
set_option maxHeartbeats 4000000 in
theorem torn_walk (n0 : Nat) (A : Option Addr) (n c : Nat) (X : List Ac) (ch : Nat) (w : World) (hT : Tab w) (hn0 : n0 < 256) (hX : X.length = n) (hr : RL w 4 A n (X.flatMap Ac.cs)) (hok : ∀ x ∈ X, x.ok) (hnc : n ≤ c) (hcm : c ≤ 9223372036854775807) (hch : ch < 18446744073709551616) :
    Calls Tryd.prog 6 #[.int .u8 n0, .slice A n c, .int .u64 ch] w fun e w' => e = .returned (.bool true) ∧ Below w.heap.size w w' := by
  have HOK := hid hok
  have HX := hid hX
  have HTb := hid hT
  have HR := hid hr
  clear hok hX hT hr
  by_cases hn : n ≤ 20
  rotate_left
  · have t1 : ((n : Int) > 20) := by omega
    go_enter Tryd.func6, Tryd.ntmps6
    go_wp2_with fail
    refine (awake_any _ HTb.out).mono ?_
    rintro e w1 ⟨rfl, b1⟩
    go_wp2_with fail
    go_ret
    exact ⟨rfl, b1⟩
  · have t1 : ¬ ((n : Int) > 20) := by omega
    go_enter Tryd.func6, Tryd.ntmps6
    go_wp2_with fail
    refine (begin_any n0 w hn0 HTb.out).mono ?_
    have hS0 := Sv.begin_ (2 + n0 % 20) (by omega)
    have hq0 : 2 + n0 % 20 ≤ 21 := by omega
    generalize 2 + n0 % 20 = q at hS0 hq0 ⊢
    generalize created (Dk.new (q + 3)) 2 q = D0 at hS0 ⊢
    generalize hl0 : Lg.first 2 q = l0 at hS0 ⊢
    have he0 : Hid (l0.e = 1) := by rw [← hl0]; exact hid rfl
    clear hl0
    rintro e w4 ⟨d0, rfl, hd4, b4⟩
    simp only [DV.v, Lg.v]
    go_wp2_with (first
      | ((with_reducible refine is_alloc 38 ?_); refine wp_allocB (w := w4) _ arrDisk ?_; intro w5 k5 b5 s5; go_frame)
      | ((with_reducible refine is_alloc 44 ?_); refine wp_allocN (w4.heap.size + 1) s5 _ arrLog ?_; intro w6 k6 b6 s6; go_frame)
      | ((with_reducible refine is_store 38 ?_); refine wp_storeB w4.heap.size _ _ d0.cs (k5.keep (by rw [s5]; exact b6)) diskN rfl (dv_one _) rfl rfl ?_; intro w7 k7 r7; go_frame)
      | ((with_reducible refine is_store 44 ?_); refine wp_storeB (w4.heap.size + 1) _ _ l0.cs (k6.grown r7 (by simp)) logN rfl (lg_one _) rfl rfl ?_; intro w8 k8 r8; go_frame))
    have b56 : Below w4.heap.size w4 w6 := b5.trans ((show Below w5.heap.size w5 w6 by rw [s5]; exact b6).mono b5.size)
    have hd8 := ((hd4.keep b56).kept (Kept.grown r7 (k5.keep (by rw [s5]; exact b6)) notDk)).kept (Kept.grown r8 (k6.grown r7 (by simp)) (by unfold dkT; decide))
    have K0 : Bx w8 w4.heap.size d0 D0 := ⟨k7.grown r8 (by simp), hd8⟩
    have C6 := b4.trans (b56.mono b4.size)
    have C7 := C6.grown r7 C6.size (fun z hz => by cases hz; exact b4.size)
    have C8 := C7.grown r8 C7.size (fun z hz => by cases hz; have := b4.size; omega)
    have hG : w.heap.size ≤ w4.heap.size := b4.size
    clear b4 b5 b6 b56 s5 s6 k5 k6 k7 r7 r8 hd4 hd8 C6 C7
    generalize w4.heap.size = G7 at *
    obtain ⟨G8, hG8⟩ : ∃ z, G7 + 1 = z := ⟨_, rfl⟩
    rw [hG8] at k8 ⊢
    have hG78 : w.heap.size ≤ G8 ∧ ¬ G7 = G8 ∧ ¬ G8 = G7 := ⟨by omega, by omega, by omega⟩
    clear hG8 w4 t1
    go_loopw [11, 12] (fun m i wr => ∃ (k : Nat) (d : DV) (D : Dk) (l : Lg) (rs : List (Nat × List UInt8)), k ≤ n ∧ i = .int .i64 k ∧ m = .int .i64 rs.length ∧ rs.length ≤ k ∧ Hid (l.e = 1) ∧ Bx wr G7 d D ∧ Blk wr G8 44 l.cs ∧ Hid (∃ B m s G, Sv k q D l 1 rs B m s G) ∧ Below w.heap.size w wr) (fun _ i _ => n - (intOf i).toNat)
    case atStart => exact ⟨0, d0, D0, l0, [], Nat.zero_le _, rfl, rfl, Nat.le_refl _, he0, K0, k8, hid ⟨_, _, _, _, hS0⟩, C8⟩
    case round =>
      obtain ⟨k, d, D, l, rs, hk, rfl, rfl, hrk, hle, kd, kl, HS, hbel⟩ := hrel
      clear K0 k8 hS0 C8 he0
      by_cases hlt : k < n
      · obtain ⟨b, off, x, rfl, hbb, hx, hcell⟩ := (HR.out.below hbel).el (f := Ac.cs) (fun _ => rfl) hlt (by omega)
        have C0 := hcell 0 _ rfl
        have C1 := hcell 1 _ rfl
        have C2 := hcell 2 _ rfl
        have C3 := hcell 3 _ rfl
        rw [Nat.add_zero] at C0
        have hxok := HOK.out x (List.mem_of_getElem? hx)
        clear hcell hx
        have HP : Hid (∀ w', Calls Tryd.prog 12 #[x.val] w' fun e w'' => ∃ g, e = .returned (.slice (some ⟨g, 0, none⟩) x.pay.length x.pay.length) ∧ RB w'' (some ⟨g, 0, none⟩) x.pay.length x.pay ∧ Below w'.heap.size w' w'') := hid fun w' => (payload_any x w' hxok).mono fun e w'' ⟨g, h1, h2, h3, h4⟩ => ⟨g, h1, h3.cells rfl, h4⟩
        have hpl : x.pay.length < 400 := by
          unfold Ac.pay
          rw [payB_len]
          omega
        clear hxok
        generalize hpay : x.pay = pay at *
        clear hpay
        obtain ⟨pl, hpl2⟩ : ∃ z, pay.length = z := ⟨_, rfl⟩
        have HPL := hid hpl2
        rw [hpl2] at HP hpl
        clear hpl2
        have t2 : (k : Int) < (n : Int) := by omega
        obtain ⟨B0, m0, s0, G0, hS⟩ := HS.out
        have hlok := hS.lok (by omega)
        have hinn := hS.inn
        have hwl := hS.wl
        go_wp2_with fail
        by_cases hfit : cnt pl ≤ l.left
        · have hS2 := hS.append (by omega) (p := pay) (by rw [HPL.out]; omega) (by rw [HPL.out]; exact hfit)
          rw [HPL.out] at hS2
          have HA : Hid (∀ w' A c, Below wr.heap.size wr w' → RB w' A pl pay → Calls Tryd.prog 21 #[l.v, d.v, .slice A pl c] w' fun e w'' => ∃ d' : DV, e = .returned (.tuple #[d'.v, (l.app pl).v, .int .i64 0]) ∧ DkV w'' d' (putSecs D l.at_ (recSecs (tagB l.e l.g l.nx) pay)) ∧ Below w'.heap.size w' w'') :=
            hid fun w' A c hb hp => append_good l d D A pl c pay w' (kd.d.keep hb) (HTb.out.keep (hbel.trans (hb.mono hbel.size))) hlok hp (by omega) hfit hinn (by omega)
          have hle2 : Hid ((l.app pl).e = 1) := hle
          generalize putSecs D l.at_ (recSecs (tagB l.e l.g l.nx) pay) = DN at *
          generalize l.app pl = l2 at *
          have HS2 := hid hS2
          clear hS hS2 hlok hinn hwl hfit HS
          have hG7 := kd.k.lt
          have hG8 := kl.lt
          refine wp_region_headF 102 14 [41, 42, 43, 44, 45, 46, 47, 48, 40, 49, 50, 51, 13, 14] [10, 11] ((fun kq => ([fun u w' => u = l.v, fun u w' => u = d.v, fun u w' => u = .slice (some ⟨b, off, none⟩) n c, fun u w' => u = .int .i64 k, fun u w' => u = .pointer (some ⟨b, off + k * 4, none⟩), fun u w' => u = x.val, fun u w' => ∃ (gp : Nat), u = .slice (some ⟨gp, 0, none⟩) pl pl ∧ RB w' (some ⟨gp, 0, none⟩) pl pay, fun u w' => ∃ (dx : DV), u = .tuple #[dx.v, l2.v, .int .i64 0] ∧ DkV w' dx DN, fun u w' => ∃ (dx : DV), u = .tuple #[dx.v, l2.v, .int .i64 0] ∧ DkV w' dx DN, fun u w' => ∃ (dx : DV), u = dx.v ∧ DkV w' dx DN, fun u w' => u = l2.v, fun u w' => u = .int .i64 0, fun u w' => ∃ (b13 : Nat), u = .pointer (some ⟨b13, 0, none⟩) ∧ wr.heap.size ≤ b13 ∧ Blk w' b13 38 DV.zero.cs, fun u w' => ∃ (b14 : Nat), u = .pointer (some ⟨b14, 0, none⟩) ∧ wr.heap.size ≤ b14 ∧ Blk w' b14 44 Lg.zero.cs] : List (Value → World → Prop)).getD kq (fun _ _ => True))) (by kernel_rfl) rfl (by kernel_rfl) ?grow ?step ?tail
          case step =>
            simp only [List.take_succ_cons, List.take_zero]
            refine HSteps.cons ?_ ?_
            · intro f w' hb hU
              obtain ⟨x0', x1', x2', x3', x4', x5'⟩ := (kl.keep hb).c6
              simp only [putAll, List.foldl_cons, List.foldl_nil]
              go_frame
              go_wp2_with fail
              exact ⟨rfl, _, rfl, Below.refl _ _, rfl⟩
            refine HSteps.cons ?_ ?_
            · intro f w' hb hU
              obtain ⟨x0', x1', x2', x3', x4'⟩ := (kd.k.keep hb).c5
              simp only [putAll, List.foldl_cons, List.foldl_nil]
              go_frame
              go_wp2_with fail
              exact ⟨rfl, _, rfl, Below.refl _ _, rfl⟩
            refine HSteps.cons ?_ ?_
            · intro f w' hb hU
              simp only [putAll, List.foldl_cons, List.foldl_nil]
              go_frame
              go_wp2_with fail
              exact ⟨rfl, _, rfl, Below.refl _ _, rfl⟩
            refine HSteps.cons ?_ ?_
            · intro f w' hb hU
              simp only [putAll, List.foldl_cons, List.foldl_nil]
              go_frame
              go_wp2_with fail
              exact ⟨rfl, _, rfl, Below.refl _ _, rfl⟩
            refine HSteps.cons ?_ ?_
            · intro f w' hb hU
              obtain u2 : f 43 = .slice (some ⟨b, off, none⟩) n c := hU.get ⟨2, .data⟩ (by simp) rfl
              obtain u3 : f 44 = .int .i64 k := hU.get ⟨3, .data⟩ (by simp) rfl
              simp only [putAll, List.foldl_cons, List.foldl_nil]
              go_frame
              try simp only [u2, u3]
              go_wp2_with fail
              exact ⟨rfl, _, rfl, Below.refl _ _, rfl⟩
            refine HSteps.cons ?_ ?_
            · intro f w' hb hU
              obtain u4 : f 45 = .pointer (some ⟨b, off + k * 4, none⟩) := hU.get ⟨4, .data⟩ (by simp) rfl
              have c0 := (hb.cell hbb).trans C0
              have c1 := (hb.cell hbb).trans C1
              have c2 := (hb.cell hbb).trans C2
              have c3 := (hb.cell hbb).trans C3
              simp only [putAll, List.foldl_cons, List.foldl_nil]
              go_frame
              try simp only [u4]
              go_wp2_with fail
              exact ⟨rfl, _, rfl, Below.refl _ _, rfl⟩
            refine HSteps.cons ?_ ?_
            · intro f w' hb hU
              obtain u5 : f 46 = x.val := hU.get ⟨5, .data⟩ (by simp) rfl
              have R := HP.out w'
              simp only [putAll, List.foldl_cons, List.foldl_nil]
              go_frame
              try simp only [u5]
              go_wp2_with fail
              refine (R).mono ?_
              rintro e w3 ⟨gp, rfl, hgp, b3⟩
              go_wp2_with fail
              exact ⟨rfl, _, rfl, b3, gp, rfl, hgp⟩
            refine HSteps.cons ?_ ?_
            · intro f w' hb hU
              obtain u0 : f 41 = l.v := hU.get ⟨0, .data⟩ (by simp) rfl
              obtain u1 : f 42 = d.v := hU.get ⟨1, .data⟩ (by simp) rfl
              obtain ⟨gp, u6, v6_0⟩ : ∃ (gp : Nat), f 47 = .slice (some ⟨gp, 0, none⟩) pl pl ∧ RB w' (some ⟨gp, 0, none⟩) pl pay := hU.get ⟨6, .data⟩ (by simp) rfl
              have R := HA.out w' (some ⟨gp, 0, none⟩) pl hb v6_0
              simp only [putAll, List.foldl_cons, List.foldl_nil]
              go_frame
              try simp only [u0, u1, u6]
              go_wp2_with fail
              refine (R).mono ?_
              rintro e w3 ⟨dx, rfl, hdx, b3⟩
              go_wp2_with fail
              exact ⟨rfl, _, rfl, b3, dx, rfl, hdx⟩
            refine HSteps.cons ?_ ?_
            · intro f w' hb hU
              obtain ⟨dx, u7, v7_0⟩ : ∃ (dx : DV), f 48 = .tuple #[dx.v, l2.v, .int .i64 0] ∧ DkV w' dx DN := hU.get ⟨7, .data⟩ (by simp) rfl
              simp only [putAll, List.foldl_cons, List.foldl_nil]
              go_frame
              try simp only [u7]
              go_wp2_with fail
              exact ⟨rfl, _, rfl, Below.refl _ _, dx, rfl, v7_0⟩
            refine HSteps.cons ?_ ?_
            · intro f w' hb hU
              obtain ⟨dx, u8, v8_0⟩ : ∃ (dx : DV), f 40 = .tuple #[dx.v, l2.v, .int .i64 0] ∧ DkV w' dx DN := hU.get ⟨8, .data⟩ (by simp) rfl
              simp only [putAll, List.foldl_cons, List.foldl_nil]
              go_frame
              try simp only [u8]
              go_wp2_with fail
              exact ⟨rfl, _, rfl, Below.refl _ _, dx, rfl, v8_0⟩
            refine HSteps.cons ?_ ?_
            · intro f w' hb hU
              obtain ⟨dx, u8, v8_0⟩ : ∃ (dx : DV), f 40 = .tuple #[dx.v, l2.v, .int .i64 0] ∧ DkV w' dx DN := hU.get ⟨8, .data⟩ (by simp) rfl
              simp only [putAll, List.foldl_cons, List.foldl_nil]
              go_frame
              try simp only [u8]
              go_wp2_with fail
              exact ⟨rfl, _, rfl, Below.refl _ _, rfl⟩
            refine HSteps.cons ?_ ?_
            · intro f w' hb hU
              obtain ⟨dx, u8, v8_0⟩ : ∃ (dx : DV), f 40 = .tuple #[dx.v, l2.v, .int .i64 0] ∧ DkV w' dx DN := hU.get ⟨8, .data⟩ (by simp) rfl
              simp only [putAll, List.foldl_cons, List.foldl_nil]
              go_frame
              try simp only [u8]
              go_wp2_with fail
              exact ⟨rfl, _, rfl, Below.refl _ _, rfl⟩
            refine HSteps.cons ?_ ?_
            · intro f w' hb hU
              have hP : Blk _ w'.heap.size 38 DV.zero.cs := Blk.new w' _ _
              have hb3 : Below w'.heap.size w' _ := (Below.refl _ _).alloc (Nat.le_refl _) (.cells (DV.zero.cs).toArray 38)
              simp only [putAll, List.foldl_cons, List.foldl_nil]
              go_frame
              go_wp2_with fail
              exact ⟨rfl, _, rfl, hb3, _, rfl, hb.size, hP⟩
            refine HSteps.cons ?_ ?_
            · intro f w' hb hU
              have hP : Blk _ w'.heap.size 44 Lg.zero.cs := Blk.new w' _ _
              have hb3 : Below w'.heap.size w' _ := (Below.refl _ _).alloc (Nat.le_refl _) (.cells (Lg.zero.cs).toArray 44)
              simp only [putAll, List.foldl_cons, List.foldl_nil]
              go_frame
              go_wp2_with fail
              exact ⟨rfl, _, rfl, hb3, _, rfl, hb.size, hP⟩
            exact HSteps.nil
          case grow =>
            intro kq u wa wb hb hu
            rcases kq with _ | _ | _ | _ | _ | _ | _ | _ | _ | _ | _ | _ | _ | _ | kq
            · exact hu
            · exact hu
            · exact hu
            · exact hu
            · exact hu
            · exact hu
            · obtain ⟨gp, ue, uf0⟩ := hu
              exact ⟨gp, ue, uf0.below hb⟩
            · obtain ⟨dx, ue, uf0⟩ := hu
              exact ⟨dx, ue, uf0.keep hb⟩
            · obtain ⟨dx, ue, uf0⟩ := hu
              exact ⟨dx, ue, uf0.keep hb⟩
            · obtain ⟨dx, ue, uf0⟩ := hu
              exact ⟨dx, ue, uf0.keep hb⟩
            · exact hu
            · exact hu
            · obtain ⟨b13, ue, uf0, uf1⟩ := hu
              exact ⟨b13, ue, uf0, uf1.keep hb⟩
            · obtain ⟨b14, ue, uf0, uf1⟩ := hu
              exact ⟨b14, ue, uf0, uf1.keep hb⟩
            · trivial
          case tail =>
            intro f w7 hb7 hU
            obtain ⟨dx, u9, v9_0⟩ : ∃ (dx : DV), f 49 = dx.v ∧ DkV w7 dx DN := hU.get 9 (by decide)
            obtain u10 : f 50 = l2.v := hU.get 10 (by decide)
            obtain u11 : f 51 = .int .i64 0 := hU.get 11 (by decide)
            obtain ⟨b13, u12, v12_0, v12_1⟩ : ∃ (b13 : Nat), f 13 = .pointer (some ⟨b13, 0, none⟩) ∧ wr.heap.size ≤ b13 ∧ Blk w7 b13 38 DV.zero.cs := hU.get 12 (by decide)
            obtain ⟨b14, u13, v13_0, v13_1⟩ : ∃ (b14 : Nat), f 14 = .pointer (some ⟨b14, 0, none⟩) ∧ wr.heap.size ≤ b14 ∧ Blk w7 b14 44 Lg.zero.cs := hU.get 13 (by decide)
            simp only [List.drop_succ_cons, List.drop_zero, putAll, List.foldl_cons, List.foldl_nil]
            go_frame
            simp only [u9, u10, u11, u12, u13]
            clear u9 u10 u11 u12 u13
            clear hU
            replace kd := kd.keep hb7
            replace kl := kl.keep hb7
            replace hbel := hbel.trans (hb7.mono hbel.size)
            have hne : ¬ b13 = b14 := Blk.ne v12_1 v13_1 (by decide)
            clear hb7 C0 C1 C2 C3
            go_wp2_with (first
              | ((with_reducible refine is_store 38 ?_); refine wp_storeB b13 _ _ dx.cs v12_1 diskN rfl (dv_one _) rfl rfl ?_; intro w8 k8 r8; go_frame)
              | ((with_reducible refine is_store 44 ?_); refine wp_storeB b14 _ _ l2.cs (v13_1.grown r8 (by simpa using hne)) logN rfl (lg_one _) rfl rfl ?_; intro w9 k9 r9; go_frame))
            refine noPanic_ok ?_
            have n7 : ¬ G7 = b13 ∧ ¬ G7 = b14 ∧ ¬ G8 = b13 ∧ ¬ G8 = b14 := ⟨by omega, by omega, by omega, by omega⟩
            have kl9 := (kl.grown r8 (by simp; omega)).grown r9 (by simp; omega)
            have kd9 := (kd.k.grown r8 (by simp; omega)).grown r9 (by simp; omega)
            have k89 := k8.grown r9 (by simp; omega)
            have hd9 := (v9_0.kept (Kept.grown r8 v12_1 notDk)).kept (Kept.grown r9 (v13_1.grown r8 (by simpa using hne)) (by unfold dkT; decide))
            have C8 := hbel.grown r8 hbel.size (fun z hz => by cases hz; have := hbel.size; omega)
            have C9 := C8.grown r9 C8.size (fun z hz => by cases hz; have := hbel.size; omega)
            have m7 := kd9.lt
            have m8 := kl9.lt
            have m13 := k89.lt
            have m14 := k9.lt
            clear kd kl hbel r8 r9 k8 v12_1 v13_1 v12_0 v13_0 v9_0 C8 hG7 hG8 hbb
            go_wp2_with fail
            obtain ⟨x0, x1, x2, x3, x4⟩ := k89.c5
            obtain ⟨z0, z1, z2, z3, z4, z5⟩ := k9.c6
            try dsimp only at z0 z1 z2 z3 z4 z5
            obtain ⟨y0, y1, y2, y3, y4⟩ := kd9.c5
            have f7 := kd9.fz
            obtain ⟨s7, g7⟩ := set5 kd9 rfl (.int .i64 dx.n) (.pointer dx.s) (.pointer dx.c) (.pointer dx.l) (.int .i64 dx.m)
            have kBs := k9.grown g7 (by simp; omega)
            have kls := kl9.grown g7 (by simp; omega)
            have f8 := kls.fz
            obtain ⟨b0, b1, b2, b3, b4, b5⟩ := kBs.c6
            try dsimp only at b0 b1 b2 b3 b4 b5
            obtain ⟨c0, c1, c2, c3, c4, c5⟩ := kls.c6
            try dsimp only at c0 c1 c2 c3 c4 c5
            go_region
            obtain ⟨s8, g8⟩ := set6 kls rfl (.int .i64 l2.from_) (.int .i64 l2.size) (.int .u64 l2.e) (.int .u64 l2.g) (.int .u64 l2.nx) (.int .i64 l2.at_)
            have hd10 := hd9.kept (Kept.grown g7 kd9 notDk)
            have hd11 := hd10.kept (Kept.grown g8 kls (by unfold dkT; decide))
            have C10 := C9.grown g7 C9.size (fun q hq => by cases hq; omega)
            have C11 := C10.grown g8 C10.size (fun q hq => by cases hq; omega)
            have s7' := s7.grown g8 (by simp; omega)
            clear x0 x1 x2 x3 x4 z0 z1 z2 z3 z4 z5 y0 y1 y2 y3 y4 b0 b1 b2 b3 b4 b5 c0 c1 c2 c3 c4 c5 f7 f8 s7 kBs kls hd9 hd10 C9 C10 g7 g8 kd9 kl9 k89 k9
            generalize World.setCell (World.setCell _ _ _) _ _ = w11 at s7' s8 hd11 C11 ⊢
            have Kd : Bx w11.drew G7 dx _ := ⟨s7', hd11.keep (Below.refl _ _).drew⟩
            have Kl : Blk w11.drew G8 44 l2.cs := s8
            have hbel : Below w.heap.size w w11.drew := C11.drew
            clear s7' s8 hd11 C11
            generalize w11.drew = w12 at *
            go_wp2_with fail
            go_roundw
            case measure => simp [intOf]; omega
            case rel => exact ⟨k + 1, dx, DN, l2, rs ++ [(l.g, pay)], by omega, by go_num, by rw [List.length_append, List.length_singleton]; go_num, by rw [List.length_append, List.length_singleton]; omega, hle2, Kd, Kl, hid ⟨_, _, _, _, HS2.out⟩, hbel⟩
        · have HA : Hid (∀ w' A c, Calls Tryd.prog 21 #[l.v, d.v, .slice A pl c] w' fun e w'' => e = .returned (.tuple #[DV.zero.v, Lg.zero.v, .int .i64 11]) ∧ Below w'.heap.size w' w'') :=
            hid fun w' A c => append_full l d A pl c w' hlok (by omega) (by omega)
          clear hS hlok hinn hwl hfit
          have hG7 := kd.k.lt
          have hG8 := kl.lt
          refine wp_region_headF 102 14 [41, 42, 43, 44, 45, 46, 47, 48, 40, 49, 50, 51, 13, 14] [10, 11] ((fun kq => ([fun u w' => u = l.v, fun u w' => u = d.v, fun u w' => u = .slice (some ⟨b, off, none⟩) n c, fun u w' => u = .int .i64 k, fun u w' => u = .pointer (some ⟨b, off + k * 4, none⟩), fun u w' => u = x.val, fun u w' => ∃ (gp : Nat), u = .slice (some ⟨gp, 0, none⟩) pl pl ∧ RB w' (some ⟨gp, 0, none⟩) pl pay, fun u w' => u = .tuple #[DV.zero.v, Lg.zero.v, .int .i64 11], fun u w' => u = .tuple #[DV.zero.v, Lg.zero.v, .int .i64 11], fun u w' => u = DV.zero.v, fun u w' => u = Lg.zero.v, fun u w' => u = .int .i64 11, fun u w' => ∃ (b13 : Nat), u = .pointer (some ⟨b13, 0, none⟩) ∧ wr.heap.size ≤ b13 ∧ Blk w' b13 38 DV.zero.cs, fun u w' => ∃ (b14 : Nat), u = .pointer (some ⟨b14, 0, none⟩) ∧ wr.heap.size ≤ b14 ∧ Blk w' b14 44 Lg.zero.cs] : List (Value → World → Prop)).getD kq (fun _ _ => True))) (by kernel_rfl) rfl (by kernel_rfl) ?grow ?step ?tail
          case step =>
            simp only [List.take_succ_cons, List.take_zero]
            refine HSteps.cons ?_ ?_
            · intro f w' hb hU
              obtain ⟨x0', x1', x2', x3', x4', x5'⟩ := (kl.keep hb).c6
              simp only [putAll, List.foldl_cons, List.foldl_nil]
              go_frame
              go_wp2_with fail
              exact ⟨rfl, _, rfl, Below.refl _ _, rfl⟩
            refine HSteps.cons ?_ ?_
            · intro f w' hb hU
              obtain ⟨x0', x1', x2', x3', x4'⟩ := (kd.k.keep hb).c5
              simp only [putAll, List.foldl_cons, List.foldl_nil]
              go_frame
              go_wp2_with fail
              exact ⟨rfl, _, rfl, Below.refl _ _, rfl⟩
            refine HSteps.cons ?_ ?_
            · intro f w' hb hU
              simp only [putAll, List.foldl_cons, List.foldl_nil]
              go_frame
              go_wp2_with fail
              exact ⟨rfl, _, rfl, Below.refl _ _, rfl⟩
            refine HSteps.cons ?_ ?_
            · intro f w' hb hU
              simp only [putAll, List.foldl_cons, List.foldl_nil]
              go_frame
              go_wp2_with fail
              exact ⟨rfl, _, rfl, Below.refl _ _, rfl⟩
            refine HSteps.cons ?_ ?_
            · intro f w' hb hU
              obtain u2 : f 43 = .slice (some ⟨b, off, none⟩) n c := hU.get ⟨2, .data⟩ (by simp) rfl
              obtain u3 : f 44 = .int .i64 k := hU.get ⟨3, .data⟩ (by simp) rfl
              simp only [putAll, List.foldl_cons, List.foldl_nil]
              go_frame
              try simp only [u2, u3]
              go_wp2_with fail
              exact ⟨rfl, _, rfl, Below.refl _ _, rfl⟩
            refine HSteps.cons ?_ ?_
            · intro f w' hb hU
              obtain u4 : f 45 = .pointer (some ⟨b, off + k * 4, none⟩) := hU.get ⟨4, .data⟩ (by simp) rfl
              have c0 := (hb.cell hbb).trans C0
              have c1 := (hb.cell hbb).trans C1
              have c2 := (hb.cell hbb).trans C2
              have c3 := (hb.cell hbb).trans C3
              simp only [putAll, List.foldl_cons, List.foldl_nil]
              go_frame
              try simp only [u4]
              go_wp2_with fail
              exact ⟨rfl, _, rfl, Below.refl _ _, rfl⟩
            refine HSteps.cons ?_ ?_
            · intro f w' hb hU
              obtain u5 : f 46 = x.val := hU.get ⟨5, .data⟩ (by simp) rfl
              have R := HP.out w'
              simp only [putAll, List.foldl_cons, List.foldl_nil]
              go_frame
              try simp only [u5]
              go_wp2_with fail
              refine (R).mono ?_
              rintro e w3 ⟨gp, rfl, hgp, b3⟩
              go_wp2_with fail
              exact ⟨rfl, _, rfl, b3, gp, rfl, hgp⟩
            refine HSteps.cons ?_ ?_
            · intro f w' hb hU
              obtain u0 : f 41 = l.v := hU.get ⟨0, .data⟩ (by simp) rfl
              obtain u1 : f 42 = d.v := hU.get ⟨1, .data⟩ (by simp) rfl
              obtain ⟨gp, u6, v6_0⟩ : ∃ (gp : Nat), f 47 = .slice (some ⟨gp, 0, none⟩) pl pl ∧ RB w' (some ⟨gp, 0, none⟩) pl pay := hU.get ⟨6, .data⟩ (by simp) rfl
              have R := HA.out w' (some ⟨gp, 0, none⟩) pl
              simp only [putAll, List.foldl_cons, List.foldl_nil]
              go_frame
              try simp only [u0, u1, u6]
              go_wp2_with fail
              refine (R).mono ?_
              rintro e w3 ⟨rfl, b3⟩
              go_wp2_with fail
              exact ⟨rfl, _, rfl, b3, rfl⟩
            refine HSteps.cons ?_ ?_
            · intro f w' hb hU
              obtain u7 : f 48 = .tuple #[DV.zero.v, Lg.zero.v, .int .i64 11] := hU.get ⟨7, .data⟩ (by simp) rfl
              simp only [putAll, List.foldl_cons, List.foldl_nil]
              go_frame
              try simp only [u7]
              go_wp2_with fail
              exact ⟨rfl, _, rfl, Below.refl _ _, rfl⟩
            refine HSteps.cons ?_ ?_
            · intro f w' hb hU
              obtain u8 : f 40 = .tuple #[DV.zero.v, Lg.zero.v, .int .i64 11] := hU.get ⟨8, .data⟩ (by simp) rfl
              simp only [putAll, List.foldl_cons, List.foldl_nil]
              go_frame
              try simp only [u8]
              go_wp2_with fail
              exact ⟨rfl, _, rfl, Below.refl _ _, rfl⟩
            refine HSteps.cons ?_ ?_
            · intro f w' hb hU
              obtain u8 : f 40 = .tuple #[DV.zero.v, Lg.zero.v, .int .i64 11] := hU.get ⟨8, .data⟩ (by simp) rfl
              simp only [putAll, List.foldl_cons, List.foldl_nil]
              go_frame
              try simp only [u8]
              go_wp2_with fail
              exact ⟨rfl, _, rfl, Below.refl _ _, rfl⟩
            refine HSteps.cons ?_ ?_
            · intro f w' hb hU
              obtain u8 : f 40 = .tuple #[DV.zero.v, Lg.zero.v, .int .i64 11] := hU.get ⟨8, .data⟩ (by simp) rfl
              simp only [putAll, List.foldl_cons, List.foldl_nil]
              go_frame
              try simp only [u8]
              go_wp2_with fail
              exact ⟨rfl, _, rfl, Below.refl _ _, rfl⟩
            refine HSteps.cons ?_ ?_
            · intro f w' hb hU
              have hP : Blk _ w'.heap.size 38 DV.zero.cs := Blk.new w' _ _
              have hb3 : Below w'.heap.size w' _ := (Below.refl _ _).alloc (Nat.le_refl _) (.cells (DV.zero.cs).toArray 38)
              simp only [putAll, List.foldl_cons, List.foldl_nil]
              go_frame
              go_wp2_with fail
              exact ⟨rfl, _, rfl, hb3, _, rfl, hb.size, hP⟩
            refine HSteps.cons ?_ ?_
            · intro f w' hb hU
              have hP : Blk _ w'.heap.size 44 Lg.zero.cs := Blk.new w' _ _
              have hb3 : Below w'.heap.size w' _ := (Below.refl _ _).alloc (Nat.le_refl _) (.cells (Lg.zero.cs).toArray 44)
              simp only [putAll, List.foldl_cons, List.foldl_nil]
              go_frame
              go_wp2_with fail
              exact ⟨rfl, _, rfl, hb3, _, rfl, hb.size, hP⟩
            exact HSteps.nil
          case grow =>
            intro kq u wa wb hb hu
            rcases kq with _ | _ | _ | _ | _ | _ | _ | _ | _ | _ | _ | _ | _ | _ | kq
            · exact hu
            · exact hu
            · exact hu
            · exact hu
            · exact hu
            · exact hu
            · obtain ⟨gp, ue, uf0⟩ := hu
              exact ⟨gp, ue, uf0.below hb⟩
            · exact hu
            · exact hu
            · exact hu
            · exact hu
            · exact hu
            · obtain ⟨b13, ue, uf0, uf1⟩ := hu
              exact ⟨b13, ue, uf0, uf1.keep hb⟩
            · obtain ⟨b14, ue, uf0, uf1⟩ := hu
              exact ⟨b14, ue, uf0, uf1.keep hb⟩
            · trivial
          case tail =>
            intro f w7 hb7 hU
            obtain u9 : f 49 = DV.zero.v := hU.get 9 (by decide)
            obtain u10 : f 50 = Lg.zero.v := hU.get 10 (by decide)
            obtain u11 : f 51 = .int .i64 11 := hU.get 11 (by decide)
            obtain ⟨b13, u12, v12_0, v12_1⟩ : ∃ (b13 : Nat), f 13 = .pointer (some ⟨b13, 0, none⟩) ∧ wr.heap.size ≤ b13 ∧ Blk w7 b13 38 DV.zero.cs := hU.get 12 (by decide)
            obtain ⟨b14, u13, v13_0, v13_1⟩ : ∃ (b14 : Nat), f 14 = .pointer (some ⟨b14, 0, none⟩) ∧ wr.heap.size ≤ b14 ∧ Blk w7 b14 44 Lg.zero.cs := hU.get 13 (by decide)
            simp only [List.drop_succ_cons, List.drop_zero, putAll, List.foldl_cons, List.foldl_nil]
            go_frame
            simp only [u9, u10, u11, u12, u13]
            clear u9 u10 u11 u12 u13
            clear hU
            replace kd := kd.keep hb7
            replace kl := kl.keep hb7
            replace hbel := hbel.trans (hb7.mono hbel.size)
            have hne : ¬ b13 = b14 := Blk.ne v12_1 v13_1 (by decide)
            clear hb7 C0 C1 C2 C3
            go_wp2_with (first
              | ((with_reducible refine is_store 38 ?_); refine wp_storeB b13 _ _ DV.zero.cs v12_1 diskN rfl (dv_one _) rfl rfl ?_; intro w8 k8 r8; go_frame)
              | ((with_reducible refine is_store 44 ?_); refine wp_storeB b14 _ _ Lg.zero.cs (v13_1.grown r8 (by simpa using hne)) logN rfl (lg_one _) rfl rfl ?_; intro w9 k9 r9; go_frame))
            refine noPanic_ok ?_
            have kl9 := (kl.grown r8 (by simp; omega)).grown r9 (by simp; omega)
            have kd9 : Bx w9 G7 d D := ⟨(kd.k.grown r8 (by simp; omega)).grown r9 (by simp; omega), (kd.d.kept (Kept.grown r8 v12_1 notDk)).kept (Kept.grown r9 (v13_1.grown r8 (by simpa using hne)) (by unfold dkT; decide))⟩
            have C8 := hbel.grown r8 hbel.size (fun z hz => by cases hz; have := hbel.size; omega)
            have C9 := C8.grown r9 C8.size (fun z hz => by cases hz; have := hbel.size; omega)
            clear kd kl hbel r8 r9 k8 k9 v12_1 v13_1 v12_0 v13_0 C8 hG7 hG8 hbb
            go_wp2_with fail
            go_roundw
            case measure => simp [intOf]; omega
            case rel => exact ⟨k + 1, d, D, l, rs, by omega, by go_num, rfl, by omega, hle, kd9, kl9, hid (by obtain ⟨B, m, s, G, h⟩ := HS.out; exact ⟨B, m, s, G, h.next (by omega)⟩), C9⟩
      · obtain rfl : k = n := by omega
        obtain ⟨B0, m0, s0, G0, hS⟩ := HS.out
        have hS2 := hS.sync (by omega)
        clear hS HS
        obtain ⟨x0, x1, x2, x3, x4⟩ := kd.k.c5
        have l7 := kd.k.lt
        go_wp2_with fail
        have R := sync_any d wr
        dsimp only [DV.v] at R
        refine R.mono ?_
        clear R
        rintro e w5 ⟨rfl, b5⟩
        replace kd := kd.keep b5
        replace kl := kl.keep b5
        replace hbel := hbel.trans (b5.mono hbel.size)
        clear b5 x0 x1 x2 x3 x4 l7
        go_wp2_with ((with_reducible refine is_store 38 ?_); refine wp_storeB G7 _ _ d.sync.cs kd.k diskN rfl (dv_one _) rfl rfl ?_; intro w6 k6 r6; go_frame)
        have Kd : Bx w6 G7 d.sync D.sync := kd.put k6 r6 kd.d.sync
        replace kl := kl.grown r6 (by simp; omega)
        replace hbel := hbel.grown r6 hbel.size (fun z hz => by cases hz; omega)
        clear kd k6 r6
        obtain ⟨l', ps, ho, hnx', hps⟩ := hS2.torn (by omega) rfl ch
        have hdn := hS2.n
        have hnb := hS2.bn
        have hk2 := hS2.k2
        rw [hle.out] at ho
        have HN := hid (fun w' => next_any l w')
        have HH : Hid (∀ w', Calls Tryd.prog 10 #[.int .u64 2, .int .u64 l.nx] w' fun e w'' => ∃ A c, e = .returned (.slice A 128 c) ∧ RB w'' A 128 (hdr 2 l.nx) ∧ Below w'.heap.size w' w'') := hid fun w' =>
          (refHeader_any 2 l.nx w' (by omega) (by omega)).mono fun e w'' ⟨v, h1, h2, h3⟩ => by
            obtain ⟨A, c, rfl, h4, _, _⟩ := own_form h2
            exact ⟨A, c, h1, h4, h3⟩
        have HW : Hid (∀ w' A c, Below w6.heap.size w6 w' → RB w' A 128 (hdr 2 l.nx) → Calls Tryd.prog 14 #[d.sync.v, .int .i64 2, .slice A 128 c] w' fun e w'' => ∃ d' : DV, e = .returned (.tuple #[d'.v, .int .i64 0]) ∧ DkV w'' d' (D.sync.write 2 (hdr 2 l.nx)) ∧ Below w'.heap.size w' w'') := hid fun w' A c hb hr => by
          have := write_good d.sync D.sync A c (hdr 2 l.nx) 2 w' (Kd.d.keep hb) (by omega) hr (by show (0 : Nat) < _; omega)
          rw [show ((2 : Nat) : Int) = 2 from rfl] at this
          exact this
        have HDN : Hid ((D.sync.write 2 (hdr 2 l.nx)).n = q + 3 ∧ (D.sync.write 2 (hdr 2 l.nx)).W.length = 1) := hid ⟨hdn, rfl⟩
        obtain ⟨DN, hDN⟩ : ∃ z, D.sync.write 2 (hdr 2 l.nx) = z := ⟨_, rfl⟩
        rw [hDN] at HW HDN ho
        have HO := hid ho
        have HPS := hid hps
        have HNX := hid hnx'
        clear hS2 ho hps hnx' hdn hnb hDN
        have hG7 := Kd.k.lt
        have hG8 := kl.lt
        refine wp_region_headF 102 9 [61, 62, 63, 64, 65, 60, 66, 67, 16] [7] ((fun kq => ([fun u w' => u = d.sync.v, fun u w' => u = l.v, fun u w' => u = .int .u64 l.nx, fun u w' => ∃ (Ah : Option Addr), ∃ (chh : Nat), u = .slice Ah 128 chh ∧ RB w' Ah 128 (hdr 2 l.nx), fun u w' => ∃ (dx : DV), u = .tuple #[dx.v, .int .i64 0] ∧ DkV w' dx DN, fun u w' => ∃ (dx : DV), u = .tuple #[dx.v, .int .i64 0] ∧ DkV w' dx DN, fun u w' => ∃ (dx : DV), u = dx.v ∧ DkV w' dx DN, fun u w' => u = .int .i64 0, fun u w' => ∃ (b16 : Nat), u = .pointer (some ⟨b16, 0, none⟩) ∧ w6.heap.size ≤ b16 ∧ Blk w' b16 38 DV.zero.cs] : List (Value → World → Prop)).getD kq (fun _ _ => True))) (by kernel_rfl) rfl (by kernel_rfl) ?grow ?step ?tail
        case step =>
          simp only [List.take_succ_cons, List.take_zero]
          refine HSteps.cons ?_ ?_
          · intro f w' hb hU
            obtain ⟨x0', x1', x2', x3', x4'⟩ := (Kd.k.keep hb).c5
            simp only [putAll, List.foldl_cons, List.foldl_nil]
            go_frame
            go_wp2_with fail
            exact ⟨rfl, _, rfl, Below.refl _ _, rfl⟩
          refine HSteps.cons ?_ ?_
          · intro f w' hb hU
            obtain ⟨x0', x1', x2', x3', x4', x5'⟩ := (kl.keep hb).c6
            simp only [putAll, List.foldl_cons, List.foldl_nil]
            go_frame
            go_wp2_with fail
            exact ⟨rfl, _, rfl, Below.refl _ _, rfl⟩
          refine HSteps.cons ?_ ?_
          · intro f w' hb hU
            obtain u1 : f 62 = l.v := hU.get ⟨1, .data⟩ (by simp) rfl
            have R := HN.out w'
            simp only [putAll, List.foldl_cons, List.foldl_nil]
            go_frame
            try simp only [u1]
            go_wp2_with fail
            refine (R).mono ?_
            rintro e w3 ⟨rfl, b3⟩
            go_wp2_with fail
            exact ⟨rfl, _, rfl, b3, rfl⟩
          refine HSteps.cons ?_ ?_
          · intro f w' hb hU
            obtain u2 : f 63 = .int .u64 l.nx := hU.get ⟨2, .data⟩ (by simp) rfl
            have R := HH.out w'
            simp only [putAll, List.foldl_cons, List.foldl_nil]
            go_frame
            try simp only [u2]
            go_wp2_with fail
            refine (R).mono ?_
            rintro e w3 ⟨Ah, chh, rfl, hrh, b3⟩
            go_wp2_with fail
            exact ⟨rfl, _, rfl, b3, Ah, chh, rfl, hrh⟩
          refine HSteps.cons ?_ ?_
          · intro f w' hb hU
            obtain u0 : f 61 = d.sync.v := hU.get ⟨0, .data⟩ (by simp) rfl
            obtain ⟨Ah, chh, u3, v3_0⟩ : ∃ (Ah : Option Addr), ∃ (chh : Nat), f 64 = .slice Ah 128 chh ∧ RB w' Ah 128 (hdr 2 l.nx) := hU.get ⟨3, .data⟩ (by simp) rfl
            have R := HW.out w' Ah chh hb v3_0
            simp only [putAll, List.foldl_cons, List.foldl_nil]
            go_frame
            try simp only [u0, u3]
            go_wp2_with fail
            refine (R).mono ?_
            rintro e w3 ⟨dx, rfl, hdx, b3⟩
            go_wp2_with fail
            exact ⟨rfl, _, rfl, b3, dx, rfl, hdx⟩
          refine HSteps.cons ?_ ?_
          · intro f w' hb hU
            obtain ⟨dx, u4, v4_0⟩ : ∃ (dx : DV), f 65 = .tuple #[dx.v, .int .i64 0] ∧ DkV w' dx DN := hU.get ⟨4, .data⟩ (by simp) rfl
            simp only [putAll, List.foldl_cons, List.foldl_nil]
            go_frame
            try simp only [u4]
            go_wp2_with fail
            exact ⟨rfl, _, rfl, Below.refl _ _, dx, rfl, v4_0⟩
          refine HSteps.cons ?_ ?_
          · intro f w' hb hU
            obtain ⟨dx, u5, v5_0⟩ : ∃ (dx : DV), f 60 = .tuple #[dx.v, .int .i64 0] ∧ DkV w' dx DN := hU.get ⟨5, .data⟩ (by simp) rfl
            simp only [putAll, List.foldl_cons, List.foldl_nil]
            go_frame
            try simp only [u5]
            go_wp2_with fail
            exact ⟨rfl, _, rfl, Below.refl _ _, dx, rfl, v5_0⟩
          refine HSteps.cons ?_ ?_
          · intro f w' hb hU
            obtain ⟨dx, u5, v5_0⟩ : ∃ (dx : DV), f 60 = .tuple #[dx.v, .int .i64 0] ∧ DkV w' dx DN := hU.get ⟨5, .data⟩ (by simp) rfl
            simp only [putAll, List.foldl_cons, List.foldl_nil]
            go_frame
            try simp only [u5]
            go_wp2_with fail
            exact ⟨rfl, _, rfl, Below.refl _ _, rfl⟩
          refine HSteps.cons ?_ ?_
          · intro f w' hb hU
            have hP : Blk _ w'.heap.size 38 DV.zero.cs := Blk.new w' _ _
            have hb3 : Below w'.heap.size w' _ := (Below.refl _ _).alloc (Nat.le_refl _) (.cells (DV.zero.cs).toArray 38)
            simp only [putAll, List.foldl_cons, List.foldl_nil]
            go_frame
            go_wp2_with fail
            exact ⟨rfl, _, rfl, hb3, _, rfl, hb.size, hP⟩
          exact HSteps.nil
        case grow =>
          intro kq u wa wb hb hu
          rcases kq with _ | _ | _ | _ | _ | _ | _ | _ | _ | kq
          · exact hu
          · exact hu
          · exact hu
          · obtain ⟨Ah, chh, ue, uf0⟩ := hu
            exact ⟨Ah, chh, ue, uf0.below hb⟩
          · obtain ⟨dx, ue, uf0⟩ := hu
            exact ⟨dx, ue, uf0.keep hb⟩
          · obtain ⟨dx, ue, uf0⟩ := hu
            exact ⟨dx, ue, uf0.keep hb⟩
          · obtain ⟨dx, ue, uf0⟩ := hu
            exact ⟨dx, ue, uf0.keep hb⟩
          · exact hu
          · obtain ⟨b16, ue, uf0, uf1⟩ := hu
            exact ⟨b16, ue, uf0, uf1.keep hb⟩
          · trivial
        case tail =>
          intro f w7 hb7 hU
          obtain ⟨dx, u6, v6_0⟩ : ∃ (dx : DV), f 66 = dx.v ∧ DkV w7 dx DN := hU.get 6 (by decide)
          obtain u7 : f 67 = .int .i64 0 := hU.get 7 (by decide)
          obtain ⟨b16, u8, v8_0, v8_1⟩ : ∃ (b16 : Nat), f 16 = .pointer (some ⟨b16, 0, none⟩) ∧ w6.heap.size ≤ b16 ∧ Blk w7 b16 38 DV.zero.cs := hU.get 8 (by decide)
          simp only [List.drop_succ_cons, List.drop_zero, putAll, List.foldl_cons, List.foldl_nil]
          go_frame
          simp only [u6, u7, u8]
          clear u6 u7 u8
          clear hU
          replace Kd := Kd.keep hb7
          replace kl := kl.keep hb7
          replace hbel := hbel.trans (hb7.mono hbel.size)
          clear hb7
          go_wp2_with ((with_reducible refine is_store 38 ?_); refine wp_storeB b16 _ _ dx.cs v8_1 diskN rfl (dv_one _) rfl rfl ?_; intro w8 k8 r8; go_frame)
          refine noPanic_ok ?_
          have hd8 := v6_0.kept (Kept.grown r8 v8_1 notDk)
          replace kl := kl.grown r8 (by simp; omega)
          replace hbel := hbel.grown r8 hbel.size (fun z hz => by cases hz; have := hbel.size; omega)
          clear Kd r8 v8_0 v8_1 v6_0 hG7 hG8
          obtain ⟨x0, x1, x2, x3, x4⟩ := k8.c5
          have l8 := k8.lt
          go_wp2_with fail
          have R := crash_any dx DN ch w8 hd8 (by rw [HDN.out.2]; omega) hch
          dsimp only [DV.v] at R
          refine R.mono ?_
          clear R
          rintro e w9 ⟨d9, rfl, hd9, b9⟩
          replace kl := kl.keep b9
          replace hbel := hbel.trans (b9.mono hbel.size)
          clear x0 x1 x2 x3 x4 l8 k8 hd8 b9
          go_wp2_with fail
          have R := wopen_any d9 (DN.crash ch) 2 q w9 hd9 (HTb.out.keep hbel) hk2 (by show 2 + q ≤ DN.n; rw [HDN.out.1]; omega)
          rw [HO.out] at R
          unfold wopenE at R
          dsimp only at R
          generalize hdrF _ = ff at R
          rw [show ((2 : Nat) : Int) = 2 from rfl] at R
          simp only [DV.v] at R
          refine R.mono ?_
          clear R
          rintro e w10 ⟨⟨sA, sn, sc⟩, rfl, hrr, b10⟩
          have hen := hrr.e
          rw [recsAt_len] at hen
          dsimp only at hen
          subst hen
          replace kl := kl.keep b10
          replace hbel := hbel.trans (b10.mono hbel.size)
          clear b10 hrr hd9
          have hs10 := hbel.size
          have l10 := kl.lt
          simp only [Sl.v, Lg.v]
          go_wp2_with (first
            | ((with_reducible refine is_alloc 44 ?_); refine wp_allocB (w := w10) _ arrLog ?_; intro w11 k11 b11 s11; go_frame)
            | ((with_reducible refine is_store 44 ?_); refine wp_storeB w10.heap.size _ _ l'.cs k11 logN rfl (lg_one _) rfl rfl ?_; intro w12 k12 r12; go_frame))
          replace kl := (kl.keep b11).grown r12 (by simp; omega)
          have C1 := hbel.trans (b11.mono hbel.size)
          replace hbel := C1.grown r12 C1.size (fun z hz => by cases hz; exact hs10)
          clear b11 s11 k11 r12 C1
          have ga := fun x : Ext w12 => (k12.keep x.h).c6
          have ga0 := fun x => (ga x).1
          have ga1 := fun x => (ga x).2.1
          have ga2 := fun x => (ga x).2.2.1
          have ga3 := fun x => (ga x).2.2.2.1
          have ga4 := fun x => (ga x).2.2.2.2.1
          have ga5 := fun x => (ga x).2.2.2.2.2
          try dsimp only at ga0 ga1 ga2 ga3 ga4 ga5
          clear ga
          have gb := fun x : Ext w12 => (kl.keep x.h).c6
          have gb0 := fun x => (gb x).1
          have gb1 := fun x => (gb x).2.1
          have gb2 := fun x => (gb x).2.2.1
          have gb3 := fun x => (gb x).2.2.2.1
          have gb4 := fun x => (gb x).2.2.2.2.1
          have gb5 := fun x => (gb x).2.2.2.2.2
          try dsimp only at gb0 gb1 gb2 gb3 gb4 gb5
          clear gb
          have N1 := fun wx => next_any l' wx
          have N2 := fun wx => next_any l wx
          rw [HNX.out] at N1
          unfold Lg.v at N1 N2
          have HN1 := hid N1
          have HN2 := hid N2
          have HAW := hid (fun (wx : World) (hb : Below w12.heap.size w12 wx) => awake_any wx (HTb.out.keep (hbel.trans (hb.mono hbel.size))))
          have y1 : ((l.nx : Int) == (l.nx : Int)) = true := beq_self_eq_true _
          clear N1 N2 k12 kl l10 hs10 HNX HN HH HW
          by_cases hps : ps.length = rs.length
          · have y2 : ((ps.length : Int) == (rs.length : Int)) = true := by rw [hps]; exact beq_self_eq_true _
            clear HPS
            (refine wp_region_ext (by kernel_rfl) (by kernel_rfl) ?_; (repeat (go_big_quiet_step ((first | with_reducible exact Ext.calls _ (HN1.out _) | with_reducible exact Ext.calls _ (HN2.out _) | with_reducible exact Ext.calls _ (HAW.out _ (Ext.h _)))))); refine wpQuiet_nil ?_; rintro _ ⟨z, rfl⟩)
            have C := hbel.trans (z.h.mono hbel.size)
            go_wp2_with fail
            go_ret
            exact ⟨rfl, C⟩
          · obtain rfl : ps = [] := HPS.out.resolve_left hps
            have y2 : (((0 : Nat) : Int) == (rs.length : Int)) = false := by rw [beq_eq_false_iff_ne]; rw [List.length_nil] at hps; omega
            have y3 : ((0 : Int) == (rs.length : Int)) = false := y2
            clear HPS
            (refine wp_region_ext (by kernel_rfl) (by kernel_rfl) ?_; (repeat (go_big_quiet_step ((first | with_reducible exact Ext.calls _ (HN1.out _) | with_reducible exact Ext.calls _ (HN2.out _) | with_reducible exact Ext.calls _ (HAW.out _ (Ext.h _)))))); refine wpQuiet_nil ?_; rintro _ ⟨z, rfl⟩)
            have C := hbel.trans (z.h.mono hbel.size)
            go_wp2_with fail
            go_ret
            exact ⟨rfl, C⟩
end Go.Proofs.YtlokfndonjldpaaDoor

