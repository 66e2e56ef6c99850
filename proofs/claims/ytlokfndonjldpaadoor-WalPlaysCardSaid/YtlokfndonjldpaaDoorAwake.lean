/- The example of layer 12's laws, walked. Conditions: the table of remainders is laid. -/
import Derived.Test.YtlokfndonjldpaaDoorBegin
import Derived.Test.YtlokfndonjldpaaDoorLawS
import Derived.Test.YtlokfndonjldpaaDoorHead
set_option linter.unusedSimpArgs false
set_option linter.unusedVariables false
namespace Go.Proofs.YtlokfndonjldpaaDoor
open Go.RowKit

def awD (p : List UInt8) : Dk := putSecs (created (Dk.new 8) 0 8) 1 (recSecs (tagB 1 1 1) p)
theorem aw_open (p : List UInt8) (hp : p.length = 100) : ∃ l, wopen (awD p).cur 0 8 = some (l, [p]) ∧ hdrF ((awD p).cur 0) = 1 := by
  have hz : ∀ j, (putSecs (Dk.new 8) (0 + 1) (List.replicate (8 - 1) zero128)).cur j = zero128 := fun j => by
    rw [cur_ups, putSecs_rev]
    refine ups_same _ _ _ ?_ ?_
    · rw [putSecs_S]; rfl
    · intro x hx
      rw [List.mem_append] at hx
      rcases hx with hx | hx
      · cases hx
      · exact List.eq_of_mem_replicate (nums_snd hx)
  have hS : ∀ j, j ≠ 0 → (created (Dk.new 8) 0 8).S j = zero128 := fun j hj => by
    show upd (putSecs (Dk.new 8) (0 + 1) (List.replicate (8 - 1) zero128)).cur 0 (hdr 1 1) j = _
    rw [upd_ne hj, hz]
  have hS0 : (created (Dk.new 8) 0 8).S 0 = hdr 1 1 := by
    show upd (putSecs (Dk.new 8) (0 + 1) (List.replicate (8 - 1) zero128)).cur 0 (hdr 1 1) 0 = _
    exact upd_eq
  have hl : (recSecs (tagB 1 1 1) p).length = 2 := by rw [rs_len, hp]; rfl
  have hc : (awD p).cur = ups (created (Dk.new 8) 0 8).S (nums 1 (recSecs (tagB 1 1 1) p)) := by
    rw [cur_ups]
    unfold awD
    rw [putSecs_rev, putSecs_S]
    rfl
  have h0 : (awD p).cur 0 = hdr 1 1 := by rw [hc, ups_out _ _ _ _ (.inl (by omega)), hS0]
  have hr : regn (awD p).cur 0 8 = lay 1 1 [(1, p)] ++ List.replicate 5 zero128 := by
    show seg (awD p).cur 1 7 = _
    rw [hc, ups_in _ _ _ _ (by omega), hl, seg_congr (g := fun _ => zero128) fun j h1 h2 => hS j (by omega)]
    show _ = (_ ++ []) ++ _
    rw [List.append_nil]
    rfl
  obtain ⟨p1, p2⟩ := hdr_parts 1 1 (by omega) (by omega)
  have hok := hdrOk_hdr 1 1 (by omega) (by omega) (by omega) (by omega)
  have hsc := scan_lay 1 [(1, p)] 1 1 6 (List.replicate 5 zero128) ⟨by omega, fun r hr => by rw [List.mem_singleton] at hr; subst hr; show 1 < _; omega, fun r hr => by rw [List.mem_singleton] at hr; subst hr; show p.length ≤ _; omega⟩ ⟨Nat.le_refl _, trivial⟩ (by show 1 + 1 < _; omega)
  rw [scan_stops (l := 1 + List.length [((1 : Nat), p)]) (g := lastGen 1 [(1, p)]) 6 (stops_old (G := 1) (fun b hb => by rw [List.eq_of_mem_replicate hb]; exact ⟨by decide, by decide⟩) (Nat.le_refl _))] at hsc
  refine ⟨⟨0, 8, 1, (latest 1 (regn (awD p).cur 0 8) + 1) % 18446744073709551616, 2, 0 + 1 + (lay 1 1 [(1, p)]).length⟩, ?_, by rw [h0]; exact p2⟩
  unfold wopen
  rw [h0, if_pos hok, p1, p2, hr]
  show some (_, _) = _
  rw [show scan (8 - 1) 1 1 1 (lay 1 1 [(1, p)] ++ List.replicate 5 zero128) = _ from hsc]
  rfl

set_option maxRecDepth 100000 in
set_option maxHeartbeats 4000000 in
theorem awake_any (w : World) (hT : Tab w) :
    Calls Tryd.prog 9 #[] w fun e w' => e = .returned (.bool true) ∧ Below w.heap.size w w' := by
  have HTb := hid hT
  clear hT
  go_enter Tryd.func9, Tryd.ntmps9
  go_wp2_with fail
  have R := new_ok 8 w (by omega) (by omega)
  rw [show ((8 : Nat) : Int) = 8 from rfl] at R
  refine R.mono ?_
  clear R
  rintro e w4 ⟨rfl, b4⟩
  have hd4 := DkV.new w4 8 (by omega)
  have B := b4
  clear b4
  simp only [DV.v, show ((8 : Nat) : Int) = 8 from rfl, show ((0 : Nat) : Int) = 0 from rfl]
  go_wp2_with (first
    | ((with_reducible refine is_alloc 38 ?_); refine wp_allocB (w := w4) _ arrDisk ?_; intro w5 k5 b5 s5; go_frame)
    | ((with_reducible refine is_store 38 ?_); refine wp_storeB w4.heap.size _ _ (⟨8, none, none, none, 0⟩ : DV).cs k5 diskN rfl (dv_one _) rfl rfl ?_; intro w6 k6 r6; go_frame; obtain ⟨x0, x1, x2, x3, x4⟩ := k6.c5; dsimp only at x0 x1 x2 x3 x4; simp only [show ((8 : Nat) : Int) = 8 from rfl] at x0; have l7 := k6.lt))
  have hd6 := DkV.new w6 8 (by omega)
  have hg1 : w.heap.size ≤ w4.heap.size := B.size
  replace B := (B.trans (b5.mono B.size)).grown r6 (by have := B.size; have := b5.size; omega) (fun q hq => by cases hq; exact B.size)
  clear hd4 b5 s5 k5 r6
  generalize w4.heap.size = g1 at *
  clear w4
  have R := create_good ⟨8, none, none, none, 0⟩ (Dk.new 8) 0 8 w6 hd6 (HTb.out.keep B) (by omega) (by show 0 + 8 ≤ 8; omega) (by show (0 : Nat) ≤ _; omega)
  simp only [DV.v, show ((8 : Nat) : Int) = 8 from rfl, show ((0 : Nat) : Int) = 0 from rfl] at R
  obtain ⟨D1, hD1⟩ : ∃ z, created (Dk.new 8) 0 8 = z := ⟨_, rfl⟩
  rw [hD1] at R
  have HD1 := hid hD1
  clear hD1
  refine R.mono ?_
  clear R
  rintro e w8 ⟨d1, rfl, hd8, b8⟩
  replace k6 := k6.keep b8
  replace B := B.trans (b8.mono B.size)
  clear b8 x0 x1 x2 x3 x4 l7 hd6
  have l8 := k6.lt
  simp only [DV.v, Lg.v, Lg.first, show ((8 : Nat) : Int) = 8 from rfl, show ((0 : Nat) : Int) = 0 from rfl, show ((1 : Nat) : Int) = 1 from rfl, show ((0 + 1 : Nat) : Int) = 1 from rfl]
  go_wp2_with (first
    | ((with_reducible refine is_alloc 44 ?_); refine wp_allocB (w := w8) _ arrLog ?_; intro w9 k9 b9 s9; go_frame)
    | ((with_reducible refine is_store 38 ?_); refine wp_storeB g1 _ _ d1.cs (k6.keep b9) diskN rfl (dv_one _) rfl rfl ?_; intro w10 k10 r10; go_frame)
    | ((with_reducible refine is_store 44 ?_); refine wp_storeB w8.heap.size _ _ (Lg.first 0 8).cs (k9.grown r10 (by simp; omega)) logN rfl (lg_one _) rfl rfl ?_; intro w11 k11 r11; go_frame; obtain ⟨z0, z1, z2, z3, z4, z5⟩ := k11.c6; dsimp only [Lg.first] at z0 z1 z2 z3 z4 z5; simp only [show ((8 : Nat) : Int) = 8 from rfl, show ((0 : Nat) : Int) = 0 from rfl, show ((1 : Nat) : Int) = 1 from rfl, show ((0 + 1 : Nat) : Int) = 1 from rfl] at z0 z1 z2 z3 z4 z5; have l9 := k11.lt))
  have hd11 := ((hd8.keep b9).kept (Kept.grown r10 (k6.keep b9) notDk)).kept (Kept.grown r11 (k9.grown r10 (by simp; omega)) (by unfold dkT; decide))
  have k1 := k10.grown r11 (by simp; omega)
  have C1 := (B.trans (b9.mono B.size)).grown r10 (by have := B.size; have := b9.size; omega) (fun z hz => by cases hz; exact hg1)
  replace B := C1.grown r11 C1.size (fun z hz => by cases hz; exact B.size)
  have hg3 : g1 < w8.heap.size := l8
  have k3 := k11
  clear k6 b9 k9 s9 r10 r11 k10 C1 hd8 l8 k11
  generalize w8.heap.size = g3 at *
  clear w8
  have hok : (Lg.first 0 8).ok := ⟨by decide, by decide, by decide, by decide, by decide, by decide⟩
  have R := room_any (Lg.first 0 8) w11 hok
  rw [show (Lg.first 0 8).room = 552 from rfl] at R
  simp only [Lg.v, Lg.first, show ((8 : Nat) : Int) = 8 from rfl, show ((0 : Nat) : Int) = 0 from rfl, show ((1 : Nat) : Int) = 1 from rfl, show ((0 + 1 : Nat) : Int) = 1 from rfl] at R
  refine R.mono ?_
  clear R
  rintro e w12 ⟨rfl, b12⟩
  replace hd11 := hd11.keep b12
  replace k1 := k1.keep b12
  replace k3 := k3.keep b12
  replace B := B.trans (b12.mono B.size)
  clear b12 z0 z1 z2 z3 z4 z5 l9
  go_wp2_with fail
  obtain ⟨D2, hD2⟩ : ∃ z, awD (List.replicate 100 0) = z := ⟨_, rfl⟩
  have HD2 := hid hD2
  have HA : Hid (∀ w' A c, Below w12.heap.size w12 w' → RB w' A 100 (List.replicate 100 0) → Calls Tryd.prog 21 #[(Lg.first 0 8).v, d1.v, .slice A 100 c] w' fun e w'' => ∃ d' : DV, e = .returned (.tuple #[d'.v, (⟨0, 8, 1, 1, 2, 3⟩ : Lg).v, .int .i64 0]) ∧ DkV w'' d' D2 ∧ Below w'.heap.size w' w'') := by
    intro w' A c hb hr
    have := append_good (Lg.first 0 8) d1 D1 A 100 c (List.replicate 100 0) w' (hd11.keep hb) (HTb.out.keep (B.trans (hb.mono B.size))) hok hr (by omega) (by decide) (by rw [← HD1.out]; decide) (by rw [← HD1.out]; decide)
    rw [show putSecs D1 (Lg.first 0 8).at_ (recSecs (tagB (Lg.first 0 8).e (Lg.first 0 8).g (Lg.first 0 8).nx) (List.replicate 100 0)) = D2 by rw [← HD2.out, ← HD1.out]; rfl] at this
    exact this
  clear hd11 hD2
  have l1 := k1.lt
  have l3 := k3.lt
  refine wp_region_headF 71 8 [29, 30, 31, 32, 28, 33, 34, 35] [6, 7] ((fun kq => ([fun u w' => u = (Lg.first 0 8).v, fun u w' => u = d1.v, fun u w' => ∃ (g' : Nat), u = .slice (some ⟨g', 0, none⟩) 100 100 ∧ RB w' (some ⟨g', 0, none⟩) 100 (List.replicate 100 0), fun u w' => ∃ (d2 : DV), u = .tuple #[d2.v, (⟨0, 8, 1, 1, 2, 3⟩ : Lg).v, .int .i64 0] ∧ DkV w' d2 D2, fun u w' => ∃ (d2 : DV), u = .tuple #[d2.v, (⟨0, 8, 1, 1, 2, 3⟩ : Lg).v, .int .i64 0] ∧ DkV w' d2 D2, fun u w' => ∃ (d2 : DV), u = d2.v ∧ DkV w' d2 D2, fun u w' => u = (⟨0, 8, 1, 1, 2, 3⟩ : Lg).v, fun u w' => u = .int .i64 0] : List (Value → World → Prop)).getD kq (fun _ _ => True))) (by kernel_rfl) rfl (by kernel_rfl) ?grow ?step ?tail
  case step =>
    simp only [List.take_succ_cons, List.take_zero]
    refine HSteps.cons ?_ ?_
    · intro f w' hb hU
      obtain ⟨x0', x1', x2', x3', x4', x5'⟩ := (k3.keep hb).c6
      simp only [putAll, List.foldl_cons, List.foldl_nil]
      go_frame
      go_wp2_with fail
      exact ⟨rfl, _, rfl, Below.refl _ _, rfl⟩
    refine HSteps.cons ?_ ?_
    · intro f w' hb hU
      obtain ⟨x0', x1', x2', x3', x4'⟩ := (k1.keep hb).c5
      simp only [putAll, List.foldl_cons, List.foldl_nil]
      go_frame
      go_wp2_with fail
      exact ⟨rfl, _, rfl, Below.refl _ _, rfl⟩
    refine HSteps.cons ?_ ?_
    · intro f w' hb hU
      simp only [putAll, List.foldl_cons, List.foldl_nil]
      go_frame
      go_wp2_with (at_make; refine wp_make _ rfl _ _ 25 rfl w'.heap.size 5 _ 1 bytesT rfl .i64 .i64 _ _ 100 rfl rfl rfl rfl (by omega) (by unfold maxLen; omega) (Nat.le_refl _) ?_; intro w5 hown5 r5; go_frame)
      exact ⟨rfl, _, rfl, ((Below.refl _ _).grown r5 (Nat.le_refl _) (fun k hk => by cases hk)), _, rfl, (by have := RL.of_own hown5; rw [byV_zeros] at this; exact this)⟩
    refine HSteps.cons ?_ ?_
    · intro f w' hb hU
      obtain u0 : f 29 = (Lg.first 0 8).v := hU.get ⟨0, .data⟩ (by simp) rfl
      obtain u1 : f 30 = d1.v := hU.get ⟨1, .data⟩ (by simp) rfl
      obtain ⟨g', u2, v2_0⟩ : ∃ (g' : Nat), f 31 = .slice (some ⟨g', 0, none⟩) 100 100 ∧ RB w' (some ⟨g', 0, none⟩) 100 (List.replicate 100 0) := hU.get ⟨2, .data⟩ (by simp) rfl
      have R := HA.out w' (some ⟨g', 0, none⟩) 100 hb v2_0
      simp only [putAll, List.foldl_cons, List.foldl_nil]
      go_frame
      try simp only [u0, u1, u2]
      go_wp2_with fail
      refine (R).mono ?_
      rintro e w3 ⟨d2, rfl, hd2, b3⟩
      go_wp2_with fail
      exact ⟨rfl, _, rfl, b3, d2, rfl, hd2⟩
    refine HSteps.cons ?_ ?_
    · intro f w' hb hU
      obtain ⟨d2, u3, v3_0⟩ : ∃ (d2 : DV), f 32 = .tuple #[d2.v, (⟨0, 8, 1, 1, 2, 3⟩ : Lg).v, .int .i64 0] ∧ DkV w' d2 D2 := hU.get ⟨3, .data⟩ (by simp) rfl
      simp only [putAll, List.foldl_cons, List.foldl_nil]
      go_frame
      try simp only [u3]
      go_wp2_with fail
      exact ⟨rfl, _, rfl, Below.refl _ _, d2, rfl, v3_0⟩
    refine HSteps.cons ?_ ?_
    · intro f w' hb hU
      obtain ⟨d2, u4, v4_0⟩ : ∃ (d2 : DV), f 28 = .tuple #[d2.v, (⟨0, 8, 1, 1, 2, 3⟩ : Lg).v, .int .i64 0] ∧ DkV w' d2 D2 := hU.get ⟨4, .data⟩ (by simp) rfl
      simp only [putAll, List.foldl_cons, List.foldl_nil]
      go_frame
      try simp only [u4]
      go_wp2_with fail
      exact ⟨rfl, _, rfl, Below.refl _ _, d2, rfl, v4_0⟩
    refine HSteps.cons ?_ ?_
    · intro f w' hb hU
      obtain ⟨d2, u4, v4_0⟩ : ∃ (d2 : DV), f 28 = .tuple #[d2.v, (⟨0, 8, 1, 1, 2, 3⟩ : Lg).v, .int .i64 0] ∧ DkV w' d2 D2 := hU.get ⟨4, .data⟩ (by simp) rfl
      simp only [putAll, List.foldl_cons, List.foldl_nil]
      go_frame
      try simp only [u4]
      go_wp2_with fail
      exact ⟨rfl, _, rfl, Below.refl _ _, rfl⟩
    refine HSteps.cons ?_ ?_
    · intro f w' hb hU
      obtain ⟨d2, u4, v4_0⟩ : ∃ (d2 : DV), f 28 = .tuple #[d2.v, (⟨0, 8, 1, 1, 2, 3⟩ : Lg).v, .int .i64 0] ∧ DkV w' d2 D2 := hU.get ⟨4, .data⟩ (by simp) rfl
      simp only [putAll, List.foldl_cons, List.foldl_nil]
      go_frame
      try simp only [u4]
      go_wp2_with fail
      exact ⟨rfl, _, rfl, Below.refl _ _, rfl⟩
    exact HSteps.nil
  case grow =>
    intro kq u wa wb hb hu
    rcases kq with _ | _ | _ | _ | _ | _ | _ | _ | kq
    · exact hu
    · exact hu
    · obtain ⟨g', ue, uf0⟩ := hu
      exact ⟨g', ue, uf0.below hb⟩
    · obtain ⟨d2, ue, uf0⟩ := hu
      exact ⟨d2, ue, uf0.keep hb⟩
    · obtain ⟨d2, ue, uf0⟩ := hu
      exact ⟨d2, ue, uf0.keep hb⟩
    · obtain ⟨d2, ue, uf0⟩ := hu
      exact ⟨d2, ue, uf0.keep hb⟩
    · exact hu
    · exact hu
    · trivial
  case tail =>
    intro f w7 hb7 hU
    obtain ⟨d2, u5, v5_0⟩ : ∃ (d2 : DV), f 33 = d2.v ∧ DkV w7 d2 D2 := hU.get 5 (by decide)
    obtain u6 : f 34 = (⟨0, 8, 1, 1, 2, 3⟩ : Lg).v := hU.get 6 (by decide)
    obtain u7 : f 35 = .int .i64 0 := hU.get 7 (by decide)
    simp only [List.drop_succ_cons, List.drop_zero, putAll, List.foldl_cons, List.foldl_nil]
    go_frame
    simp only [u5, u6, u7]
    clear u5 u6 u7
    clear hU
    replace k1 := k1.keep hb7
    replace k3 := k3.keep hb7
    replace B := B.trans (hb7.mono B.size)
    clear hb7 HA
    go_wp2_with (first
      | ((with_reducible refine is_store 38 ?_); refine wp_storeB g1 _ _ d2.cs k1 diskN rfl (dv_one _) rfl rfl ?_; intro w8 k8 r8; go_frame)
      | ((with_reducible refine is_store 44 ?_); refine wp_storeB g3 _ _ (⟨0, 8, 1, 1, 2, 3⟩ : Lg).cs (k3.grown r8 (by simp; omega)) logN rfl (lg_one _) rfl rfl ?_; intro w9 k9 r9; go_frame))
    refine noPanic_ok ?_
    have hd9 := (v5_0.kept (Kept.grown r8 k1 notDk)).kept (Kept.grown r9 (k3.grown r8 (by simp; omega)) (by unfold dkT; decide))
    replace k8 := k8.grown r9 (by simp; omega)
    have B8 := B.grown r8 B.size (fun q hq => by cases hq; exact hg1)
    replace B := B8.grown r9 B8.size (fun q hq => by cases hq; omega)
    clear k1 k3 r8 r9 v5_0 B8 l1 l3
    obtain ⟨x0, x1, x2, x3, x4⟩ := k8.c5
    have l8 := k8.lt
    go_wp2_with fail
    have R := wopen_any d2 D2 0 8 w9 hd9 (HTb.out.keep B) (by omega) (by rw [← HD2.out]; decide)
    obtain ⟨l', ho, hf⟩ := aw_open (List.replicate 100 0) rfl
    rw [HD2.out] at ho hf
    rw [ho, hf] at R
    unfold wopenE at R
    dsimp only at R
    simp only [DV.v, show ((8 : Nat) : Int) = 8 from rfl, show ((0 : Nat) : Int) = 0 from rfl] at R
    refine R.mono ?_
    clear R ho hf
    rintro e w10 ⟨⟨sA, sn, sc⟩, rfl, hrr, b10⟩
    have hen := hrr.e
    obtain ⟨bb, oo, sl, eA, hbb, hc0, hc1, hsl⟩ := hrr.at (i := 0) (x := (1, List.replicate 100 0)) rfl
    dsimp only at hen eA hc0 hc1 hsl
    subst hen eA
    have hsn := hsl.rb.len
    rw [List.length_replicate] at hsn
    obtain ⟨pA, pn, pc⟩ := sl
    dsimp only at hsn
    subst hsn
    replace k9 := k9.keep b10
    replace B := B.trans (b10.mono B.size)
    clear hd9 k8 x0 x1 x2 x3 x4 l8 b10 hrr hsl
    have hlen : (recsAt 1 [List.replicate 100 0]).length = 1 := rfl
    simp only [Sl.v, hlen] at hc1 ⊢
    simp only [Nat.zero_mul, Nat.add_zero] at hc0 hc1
    have hbw : bb < w10.heap.size := hbb
    have hs10 := B.size
    have l9 := k9.lt
    have R1 := room_any ⟨0, 8, 1, 1, 2, 3⟩
    have R2 := next_any ⟨0, 8, 1, 1, 2, 3⟩
    simp only [Lg.v, show ((8 : Nat) : Int) = 8 from rfl, show ((0 : Nat) : Int) = 0 from rfl, show ((1 : Nat) : Int) = 1 from rfl, show ((2 : Nat) : Int) = 2 from rfl, show ((3 : Nat) : Int) = 3 from rfl] at R1 R2
    have HR1 := hid R1
    have HR2 := hid R2
    clear R1 R2
    go_wp2_with (first
      | ((with_reducible refine is_alloc 44 ?_); refine wp_allocB (w := w10) _ arrLog ?_; intro w11 k11 b11 s11; go_frame)
      | ((with_reducible refine is_store 44 ?_); refine wp_storeB w10.heap.size _ _ l'.cs k11 logN rfl (lg_one _) rfl rfl ?_; intro w12 k12 r12; go_frame; have n9 := (k9.keep b11).grown r12 (by simp; omega); obtain ⟨z0, z1, z2, z3, z4, z5⟩ := n9.c6; dsimp only at z0 z1 z2 z3 z4 z5; simp only [show ((8 : Nat) : Int) = 8 from rfl, show ((0 : Nat) : Int) = 0 from rfl, show ((1 : Nat) : Int) = 1 from rfl, show ((2 : Nat) : Int) = 2 from rfl, show ((3 : Nat) : Int) = 3 from rfl] at z0 z1 z2 z3 z4 z5; have l9 := n9.lt; have hc2 := r12.cell ((b11.cell hbw).trans hc1) (by simp; omega); have hbw2 : bb < w12.heap.size := by (have := b11.size; have := r12.size; omega)))
    refine (HR1.out _ ⟨by decide, by decide, by decide, by decide, by decide, by decide⟩).mono ?_
    rintro e w13 ⟨rfl, b13⟩
    rw [show (⟨0, 8, 1, 1, 2, 3⟩ : Lg).room = 392 from rfl]
    have C1 := B.trans (b11.mono B.size)
    have C2 := C1.grown r12 C1.size (fun q hq => by cases hq; exact hs10)
    have C3 := C2.trans (b13.mono C2.size)
    have n13 := n9.keep b13
    have hc3 := (b13.cell hbw2).trans hc2
    have hbw3 : bb < w13.heap.size := by have := b13.size; omega
    clear z0 z1 z2 z3 z4 z5 l9
    obtain ⟨z0, z1, z2, z3, z4, z5⟩ := n13.c6
    dsimp only at z0 z1 z2 z3 z4 z5
    simp only [show ((8 : Nat) : Int) = 8 from rfl, show ((0 : Nat) : Int) = 0 from rfl, show ((1 : Nat) : Int) = 1 from rfl, show ((2 : Nat) : Int) = 2 from rfl, show ((3 : Nat) : Int) = 3 from rfl] at z0 z1 z2 z3 z4 z5
    have l9 := n13.lt
    clear hc1 hc2 B C1 C2 b11 s11 k11 r12 k12 n9 k9 b13
    go_wp2_with fail
    refine (HR2.out _).mono ?_
    rintro e w14 ⟨rfl, b14⟩
    have C4 := C3.trans (b14.mono C3.size)
    have hc4 := (b14.cell hbw3).trans hc3
    clear hc3 z0 z1 z2 z3 z4 z5 l9
    go_wp2_with fail
    go_ret
    exact ⟨rfl, C4⟩
end Go.Proofs.YtlokfndonjldpaaDoor

