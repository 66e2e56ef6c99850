/- The walk of WalRefuses, every argument. Conditions: the table of remainders is laid. -/
import Derived.Test.YtlokfndonjldpaaDoorAwake
import Derived.Test.YtlokfndonjldpaaDoorLawS
import Derived.Deep.Cut
import Derived.Deep.CutBlock
import Derived.Deep.DeepCutAuto
set_option linter.unusedSimpArgs false
set_option linter.unusedVariables false
namespace Go.Proofs.YtlokfndonjldpaaDoor
open Go.RowKit

/-- two variables made and filled in new memory -/
theorem pair_in {W w5 w6 w7 w8 : World} {T1 T2 : TypeId} {c1 c2 d1 d2 : List Value} (k5 : Blk w5 W.heap.size T1 c1) (b5 : Below W.heap.size W w5) (s5 : w5.heap.size = W.heap.size + 1) (k6 : Blk w6 (W.heap.size + 1) T2 c2) (b6 : Below (W.heap.size + 1) w5 w6)
    (k7 : Blk w7 W.heap.size T1 d1) (r7 : w6.grownBy w7 (some W.heap.size)) (k8 : Blk w8 (W.heap.size + 1) T2 d2) (r8 : w7.grownBy w8 (some (W.heap.size + 1))) :
    Below W.heap.size W w8 ∧ Blk w8 W.heap.size T1 d1 ∧ Blk w8 (W.heap.size + 1) T2 d2 := by
  have b56 : Below W.heap.size W w6 := b5.trans ((show Below w5.heap.size w5 w6 by rw [s5]; exact b6).mono b5.size)
  have C7 := b56.grown r7 b56.size (fun z hz => by cases hz; exact Nat.le_refl _)
  exact ⟨C7.grown r8 C7.size (fun z hz => by cases hz; omega), k7.grown r8 (by simp), k8⟩

theorem one_in {W w5 w6 w7 : World} {T1 : TypeId} {c1 : List Value} (k5 : Blk w5 W.heap.size T1 c1) (b5 : Below W.heap.size W w5) (s5 : w5.heap.size = W.heap.size + 1) (r6 : w5.grownBy w6 (some W.heap.size)) (b7 : Below w6.heap.size w6 w7) : Below W.heap.size W w7 := by
  have C6 := b5.grown r6 b5.size (fun z hz => by cases hz; exact Nat.le_refl _)
  exact C6.trans (b7.mono C6.size)
theorem first_ok (f n : Nat) (hf : f ≤ 16384) (hn : n ≤ 16384) (h1 : 1 ≤ n) : (Lg.first f n).ok := by
  constructor <;> (dsimp only [Lg.first]; omega)
theorem one_in' {W w5 w6 : World} {T1 : TypeId} {c1 : List Value} (k5 : Blk w5 W.heap.size T1 c1) (b5 : Below W.heap.size W w5) (s5 : w5.heap.size = W.heap.size + 1) (r6 : w5.grownBy w6 (some W.heap.size)) : Below W.heap.size W w6 :=
  b5.grown r6 b5.size (fun z hz => by cases hz; exact Nat.le_refl _)
theorem refuses_size (s : Int) (hs : -128 ≤ s ∧ s ≤ 127) : ∃ q : Nat, wrap64 (1 + (wrap64 (IntKind.i8.wrap (s.tmod 30 + 30))).tmod 30) = (q : Int) ∧ 1 ≤ q ∧ q ≤ 30 := by
  have h : -30 < s.tmod 30 ∧ s.tmod 30 < 30 := by
    rcases Int.le_total 0 s with h | h
    · rw [Int.tmod_eq_emod_of_nonneg h]; omega
    · obtain ⟨k, rfl⟩ : ∃ k : Nat, s = -(k : Int) := ⟨s.natAbs, by omega⟩
      rw [Int.neg_tmod, Int.tmod_eq_emod_of_nonneg (by omega)]
      omega
  generalize s.tmod 30 = a at h ⊢
  have e1 : IntKind.i8.wrap (a + 30) = a + 30 := IntWalk.i8_in _ (by omega)
  have e2 : wrap64 (a + 30) = a + 30 := IntWalk.wrap64_in _ (by omega)
  rw [e1, e2, Int.tmod_eq_emod_of_nonneg (by omega)]
  have e3 : wrap64 (1 + (a + 30) % 30) = 1 + (a + 30) % 30 := IntWalk.wrap64_in _ (by omega)
  rw [e3]
  exact ⟨(1 + (a + 30) % 30).toNat, by omega, by omega, by omega⟩
theorem fresh_open (f n : Nat) (q : Nat) : wopen (Dk.new q).cur f n = none := by
  unfold wopen
  have : (Dk.new q).cur f = zero128 := rfl
  rw [this, if_neg]
  rintro ⟨h, _⟩
  exact h (by decide)
theorem created_open (q f n : Nat) : ∃ l, wopen (created (Dk.new q) f n).cur f n = some (l, []) := by
  have hz : ∀ j, (putSecs (Dk.new q) (f + 1) (List.replicate (n - 1) zero128)).cur j = zero128 := fun j => by
    rw [cur_ups, putSecs_rev]
    refine ups_same _ _ _ ?_ ?_
    · rw [putSecs_S]; rfl
    · intro x hx
      rw [List.mem_append] at hx
      rcases hx with hx | hx
      · cases hx
      · exact List.eq_of_mem_replicate (nums_snd hx)
  have hS : ∀ j, j ≠ f → (created (Dk.new q) f n).cur j = zero128 := fun j hj => by
    show upd (putSecs (Dk.new q) (f + 1) (List.replicate (n - 1) zero128)).cur f (hdr 1 1) j = _
    rw [upd_ne hj, hz]
  have hS0 : (created (Dk.new q) f n).cur f = hdr 1 1 := by
    show upd (putSecs (Dk.new q) (f + 1) (List.replicate (n - 1) zero128)).cur f (hdr 1 1) f = _
    exact upd_eq
  have hr : regn (created (Dk.new q) f n).cur f n = List.replicate (n - 1) zero128 := by
    show seg (created (Dk.new q) f n).cur (f + 1) (n - 1) = _
    rw [seg_congr (g := fun _ => zero128) fun j h1 h2 => hS j (by omega)]
    unfold seg
    rw [List.map_const', List.length_range]
  obtain ⟨p1, p2⟩ := hdr_parts 1 1 (by omega) (by omega)
  have hok := hdrOk_hdr 1 1 (by omega) (by omega) (by omega) (by omega)
  have hsc : ∀ l g, 1 ≤ g → scan (n - 1) 1 l g (List.replicate (n - 1) zero128) = ([], 0) := fun l g hg => scan_stops _ (stops_old (G := 1) (fun b hb => by rw [List.eq_of_mem_replicate hb]; exact ⟨by decide, by decide⟩) hg)
  unfold wopen
  rw [hS0, if_pos hok, p1, p2, hr, hsc 1 1 (Nat.le_refl _)]
  exact ⟨_, rfl⟩
set_option maxRecDepth 100000 in
set_option maxHeartbeats 8000000 in
theorem refuses_no (s f m : Int) (w : World) (hT : Tab w) (hs : -128 ≤ s ∧ s ≤ 127) (hf : -128 ≤ f ∧ f ≤ 127) (hm : -128 ≤ m ∧ m ≤ 127) (hno : ∀ q : Nat, wrap64 (1 + (wrap64 (IntKind.i8.wrap (s.tmod 30 + 30))).tmod 30) = (q : Int) → m < 2 ∨ f < 0 ∨ (q : Int) < f + m) :
    Calls Tryd.prog 5 #[.int .i8 s, .int .i8 f, .int .i8 m] w fun e w' => e = .returned (.bool true) ∧ Below w.heap.size w w' := by
  have HTb := hid hT
  clear hT
  obtain ⟨q, hq, hq1, hq2⟩ := refuses_size s hs
  replace hno := hno q hq
  have ef := IntWalk.i64_in f (by omega)
  have em := IntWalk.i64_in m (by omega)
  have efm := IntWalk.i64_in (f + m) (by omega)
  obtain ⟨bb, hbb⟩ : ∃ z : Bool, z = (decide (m < 2) || decide (f < 0) || decide (f + m > (q : Int))) := ⟨_, rfl⟩
  have hb1 : bb = true := by
    rw [hbb]
    simp only [Bool.or_eq_true, decide_eq_true_eq]
    omega
  go_enter Tryd.func5, Tryd.ntmps5
  go_wp2_with fail
  skip
  refine (new_ok q w (by omega) (by omega)).mono ?_
  rintro e w0 ⟨rfl, b0⟩
  simp only [DV.v, show ((0 : Nat) : Int) = 0 from rfl]
  have HQ := hid hq
  clear hq
  go_upto_region 4 with (first
    | ((with_reducible refine is_alloc 38 ?_); refine wp_allocB (w := w0) _ arrDisk ?_; intro w5 k5 b5 s5; go_frame)
    | ((with_reducible refine is_store 38 ?_); refine wp_storeB w0.heap.size _ _ (⟨q, none, none, none, 0⟩ : DV).cs k5 diskN rfl (dv_one _) rfl rfl ?_; intro w1 k8d r6; go_frame))
  have B := (b0.trans (b5.mono b0.size)).grown r6 (by have := b0.size; have := b5.size; omega) (fun z hz => by cases hz; exact b0.size)
  clear b0 b5 s5 k5 r6
  generalize w0.heap.size = g8 at *
  clear w0
  skip
  go_cut [60] (fun v wx => v = .bool true ∧ wx = w1)
  case first =>
    by_cases h1 : m < 2
    · go_wp2_with fail
      go_meet
      case rel => exact ⟨rfl, rfl⟩
    · by_cases h2 : f < 0
      · go_wp2_with fail
        go_meet
        case rel => exact ⟨rfl, rfl⟩
      · have h3 : f + m > (q : Int) := by omega
        go_wp2_with fail
        go_meet
        case rel => exact ⟨by have hqq := HQ.out; simp; omega, rfl⟩
  case rest =>
    obtain ⟨rfl, hwc⟩ := hcut
    replace hwc := hwc.symm
    subst hwc
    clear hbb hb1
    obtain ⟨x0, x1, x2, x3, x4⟩ := k8d.c5
    dsimp only at x0 x1 x2 x3 x4
    simp only [show ((0 : Nat) : Int) = 0 from rfl] at x4
    have l8 := k8d.lt
    go_wp2_with fail
    have R := create_no (⟨q, none, none, none, 0⟩ : DV) f m w1 hno (by show q ≤ _; omega) (by omega) (by omega) (by omega) (by omega)
    dsimp only [DV.v] at R
    simp only [show ((0 : Nat) : Int) = 0 from rfl] at R
    refine R.mono ?_
    clear R
    rintro e w2 ⟨rfl, b2⟩
    replace k8d := k8d.keep b2
    replace B := B.trans (b2.mono B.size)
    have hg := k8d.lt
    clear b2 x0 x1 x2 x3 x4 l8
    simp only [DV.v, Lg.v]
    go_wp2_with (first
      | ((with_reducible refine is_alloc 38 ?_); refine wp_allocB (w := w2) _ arrDisk ?_; intro w5 k5 b5 s5; go_frame)
      | ((with_reducible refine is_alloc 44 ?_); refine wp_allocN (w2.heap.size + 1) s5 _ arrLog ?_; intro w6 k6 b6 s6; go_frame)
      | ((with_reducible refine is_store 38 ?_); refine wp_storeB w2.heap.size _ _ DV.zero.cs (k5.keep (by rw [s5]; exact b6)) diskN rfl (dv_one _) rfl rfl ?_; intro w7 k7 r7; go_frame)
      | ((with_reducible refine is_store 44 ?_); refine wp_storeB (w2.heap.size + 1) _ _ Lg.zero.cs (k6.grown r7 (by simp)) logN rfl (lg_one _) rfl rfl ?_; intro w8 k8 r8; go_frame; have P := pair_in k5 b5 s5 k6 b6 k7 r7 k8 r8; have j8 := k8d.keep P.1; obtain ⟨x0, x1, x2, x3, x4⟩ := j8.c5; have l8 := j8.lt; dsimp only at x0 x1 x2 x3 x4))
    replace k8d := k8d.keep P.1
    replace B := B.trans (P.1.mono B.size)
    clear k5 b5 s5 k6 b6 s6 k7 r7 k8 r8 P hg
    generalize w2.heap.size = g11 at *
    clear w2
    skip
    have R := open_no (⟨q, none, none, none, 0⟩ : DV) f m w8 hno (by show q ≤ _; omega) (by omega) (by omega) (by omega) (by omega)
    dsimp only [DV.v] at R
    simp only [show ((0 : Nat) : Int) = 0 from rfl] at R
    refine R.mono ?_
    clear R
    rintro e w9 ⟨rfl, b9⟩
    replace k8d := k8d.keep b9
    replace B := B.trans (b9.mono B.size)
    clear b9 x0 x1 x2 x3 x4 l8
    simp only [Lg.v]
    go_wp2_with (first
      | ((with_reducible refine is_alloc 44 ?_); refine wp_allocB (w := w9) _ arrLog ?_; intro w5 k5 b5 s5; go_frame)
      | ((with_reducible refine is_store 44 ?_); refine wp_storeB w9.heap.size _ _ Lg.zero.cs k5 logN rfl (lg_one _) rfl rfl ?_; intro w6 k6 r6; go_frame)
      | ((with_reducible refine is_alloc 44 ?_); refine wp_allocB (w := w6) _ arrLog ?_; intro w7 k17 b7 s7; go_frame; have P := one_in k5 b5 s5 r6 b7; have j8 := k8d.keep P; obtain ⟨x0, x1, x2, x3, x4⟩ := j8.c5; have l8 := j8.lt; dsimp only at x0 x1 x2 x3 x4; simp only [show ((0 : Nat) : Int) = 0 from rfl] at x4; obtain ⟨z0, z1, z2, z3, z4, z5⟩ := k17.c6; have l17 := k17.lt; dsimp only [Lg.zero] at z0 z1 z2 z3 z4 z5; simp only [show ((0 : Nat) : Int) = 0 from rfl] at z0 z1 z2 z3 z4 z5))
    replace k8d := k8d.keep P
    replace B := B.trans (P.mono B.size)
    clear k5 b5 s5 k6 r6 b7 s7 P
    generalize w9.heap.size = g14 at *
    generalize w6.heap.size = g17 at *
    clear w9
    have R := reset_no Lg.zero (⟨q, none, none, none, 0⟩ : DV) w7 Lg.zero_ok (.inl (by decide)) (by show q ≤ _; omega)
    dsimp only [DV.v, Lg.v, Lg.zero] at R
    simp only [show ((0 : Nat) : Int) = 0 from rfl] at R
    refine R.mono ?_
    clear R
    rintro e w10 ⟨rfl, b10⟩
    replace k8d := k8d.keep b10
    replace k17 := k17.keep b10
    replace B := B.trans (b10.mono B.size)
    clear b10 x0 x1 x2 x3 x4 l8 z0 z1 z2 z3 z4 z5 l17
    simp only [DV.v, Lg.v]
    go_wp2_with (first
      | ((with_reducible refine is_alloc 38 ?_); refine wp_allocB (w := w10) _ arrDisk ?_; intro w5 k5 b5 s5; go_frame)
      | ((with_reducible refine is_alloc 44 ?_); refine wp_allocN (w10.heap.size + 1) s5 _ arrLog ?_; intro w6 k6 b6 s6; go_frame)
      | ((with_reducible refine is_store 38 ?_); refine wp_storeB w10.heap.size _ _ DV.zero.cs (k5.keep (by rw [s5]; exact b6)) diskN rfl (dv_one _) rfl rfl ?_; intro w7 k7 r7; go_frame)
      | ((with_reducible refine is_store 44 ?_); refine wp_storeB (w10.heap.size + 1) _ _ Lg.zero.cs (k6.grown r7 (by simp)) logN rfl (lg_one _) rfl rfl ?_; intro w8 k8 r8; go_frame; have P := pair_in k5 b5 s5 k6 b6 k7 r7 k8 r8; have j8 := k8d.keep P.1; obtain ⟨x0, x1, x2, x3, x4⟩ := j8.c5; have l8 := j8.lt; dsimp only at x0 x1 x2 x3 x4; simp only [show ((0 : Nat) : Int) = 0 from rfl] at x4; have j17 := k17.keep P.1; obtain ⟨z0, z1, z2, z3, z4, z5⟩ := j17.c6; have l17 := j17.lt; dsimp only [Lg.zero] at z0 z1 z2 z3 z4 z5; simp only [show ((0 : Nat) : Int) = 0 from rfl] at z0 z1 z2 z3 z4 z5))
    replace k8d := k8d.keep P.1
    replace k17 := k17.keep P.1
    replace B := B.trans (P.1.mono B.size)
    clear k5 b5 s5 k6 b6 s6 k7 r7 k8 r8 P
    generalize w10.heap.size = g18 at *
    clear w10
    have R := append_full Lg.zero (⟨q, none, none, none, 0⟩ : DV) none 0 0 w8 Lg.zero_ok (by omega) (by decide)
    dsimp only [DV.v, Lg.v, Lg.zero] at R
    simp only [show ((0 : Nat) : Int) = 0 from rfl] at R
    refine R.mono ?_
    clear R
    rintro e w10 ⟨rfl, b10⟩
    replace k8d := k8d.keep b10
    replace k17 := k17.keep b10
    replace B := B.trans (b10.mono B.size)
    clear b10 x0 x1 x2 x3 x4 l8 z0 z1 z2 z3 z4 z5 l17
    simp only [DV.v, Lg.v]
    go_wp2_with (first
      | ((with_reducible refine is_alloc 38 ?_); refine wp_allocB (w := w10) _ arrDisk ?_; intro w5 k5 b5 s5; go_frame)
      | ((with_reducible refine is_alloc 44 ?_); refine wp_allocN (w10.heap.size + 1) s5 _ arrLog ?_; intro w6 k6 b6 s6; go_frame)
      | ((with_reducible refine is_store 38 ?_); refine wp_storeB w10.heap.size _ _ DV.zero.cs (k5.keep (by rw [s5]; exact b6)) diskN rfl (dv_one _) rfl rfl ?_; intro w7 k7 r7; go_frame)
      | ((with_reducible refine is_store 44 ?_); refine wp_storeB (w10.heap.size + 1) _ _ Lg.zero.cs (k6.grown r7 (by simp)) logN rfl (lg_one _) rfl rfl ?_; intro w8 k8 r8; go_frame; have P := pair_in k5 b5 s5 k6 b6 k7 r7 k8 r8; ))
    replace k8d := k8d.keep P.1
    replace k17 := k17.keep P.1
    replace B := B.trans (P.1.mono B.size)
    clear k5 b5 s5 k6 b6 s6 k7 r7 k8 r8 P
    generalize w10.heap.size = g21 at *
    clear w10
    have l8 := k8d.lt
    have l17 := k17.lt
    refine wp_region_headF 184 10 [103, 104, 105, 106, 102, 107, 108, 109, 24, 25] [6, 7] ((fun kq => ([fun u w' => u = .agg #[.int .i64 0, .int .i64 0, .int .u64 0, .int .u64 0, .int .u64 0, .int .i64 0], fun u w' => u = (⟨q, none, none, none, 0⟩ : DV).v, fun u w' => ∃ (g' : Nat), u = .slice (some ⟨g', 0, none⟩) 8193 8193, fun u w' => u = .tuple #[DV.zero.v, Lg.zero.v, .int .i64 13], fun u w' => u = .tuple #[DV.zero.v, Lg.zero.v, .int .i64 13], fun u w' => u = DV.zero.v, fun u w' => u = Lg.zero.v, fun u w' => u = .int .i64 13, fun u w' => ∃ (b24 : Nat), u = .pointer (some ⟨b24, 0, none⟩) ∧ w8.heap.size ≤ b24 ∧ Blk w' b24 38 DV.zero.cs, fun u w' => ∃ (b25 : Nat), u = .pointer (some ⟨b25, 0, none⟩) ∧ w8.heap.size ≤ b25 ∧ Blk w' b25 44 Lg.zero.cs] : List (Value → World → Prop)).getD kq (fun _ _ => True))) (by kernel_rfl) rfl (by kernel_rfl) ?grow ?step ?tail
    case step =>
      simp only [List.take_succ_cons, List.take_zero]
      refine HSteps.cons ?_ ?_
      · intro f w' hb hU
        obtain ⟨x0', x1', x2', x3', x4', x5'⟩ := (k17.keep hb).c6
        simp only [putAll, List.foldl_cons, List.foldl_nil]
        go_frame
        go_wp2_with fail
        exact ⟨rfl, _, rfl, Below.refl _ _, rfl⟩
      refine HSteps.cons ?_ ?_
      · intro f w' hb hU
        obtain ⟨x0', x1', x2', x3', x4'⟩ := (k8d.keep hb).c5
        simp only [putAll, List.foldl_cons, List.foldl_nil]
        go_frame
        go_wp2_with fail
        exact ⟨rfl, _, rfl, Below.refl _ _, rfl⟩
      refine HSteps.cons ?_ ?_
      · intro f w' hb hU
        simp only [putAll, List.foldl_cons, List.foldl_nil]
        go_frame
        go_wp2_with (at_make; refine wp_make _ rfl _ _ 25 rfl w'.heap.size 5 _ 1 bytesT rfl .i64 .i64 _ _ 8193 rfl rfl rfl rfl (by omega) (by unfold maxLen; omega) (Nat.le_refl _) ?_; intro w5 hown5 r5; go_frame)
        exact ⟨rfl, _, rfl, ((Below.refl _ _).grown r5 (Nat.le_refl _) (fun k hk => by cases hk)), _, rfl⟩
      refine HSteps.cons ?_ ?_
      · intro f w' hb hU
        obtain u0 : f 103 = .agg #[.int .i64 0, .int .i64 0, .int .u64 0, .int .u64 0, .int .u64 0, .int .i64 0] := hU.get ⟨0, .data⟩ (by simp) rfl
        obtain u1 : f 104 = (⟨q, none, none, none, 0⟩ : DV).v := hU.get ⟨1, .data⟩ (by simp) rfl
        obtain ⟨g', u2⟩ : ∃ (g' : Nat), f 105 = .slice (some ⟨g', 0, none⟩) 8193 8193 := hU.get ⟨2, .data⟩ (by simp) rfl
        have R := append_long Lg.zero (⟨q, none, none, none, 0⟩ : DV) (some ⟨g', 0, none⟩) 8193 8193 w' (by omega) (by omega)
        dsimp only [Lg.v, Lg.zero] at R
        simp only [show ((0 : Nat) : Int) = 0 from rfl] at R
        simp only [putAll, List.foldl_cons, List.foldl_nil]
        go_frame
        try simp only [u0, u1, u2]
        go_wp2_with fail
        refine (R).mono ?_
        rintro e w3 ⟨rfl, b3⟩
        go_wp2_with fail
        exact ⟨rfl, _, rfl, b3, rfl⟩
      refine HSteps.cons ?_ ?_
      · intro f w' hb hU
        obtain u3 : f 106 = .tuple #[DV.zero.v, Lg.zero.v, .int .i64 13] := hU.get ⟨3, .data⟩ (by simp) rfl
        simp only [putAll, List.foldl_cons, List.foldl_nil]
        go_frame
        try simp only [u3]
        go_wp2_with fail
        exact ⟨rfl, _, rfl, Below.refl _ _, rfl⟩
      refine HSteps.cons ?_ ?_
      · intro f w' hb hU
        obtain u4 : f 102 = .tuple #[DV.zero.v, Lg.zero.v, .int .i64 13] := hU.get ⟨4, .data⟩ (by simp) rfl
        simp only [putAll, List.foldl_cons, List.foldl_nil]
        go_frame
        try simp only [u4]
        go_wp2_with fail
        exact ⟨rfl, _, rfl, Below.refl _ _, rfl⟩
      refine HSteps.cons ?_ ?_
      · intro f w' hb hU
        obtain u4 : f 102 = .tuple #[DV.zero.v, Lg.zero.v, .int .i64 13] := hU.get ⟨4, .data⟩ (by simp) rfl
        simp only [putAll, List.foldl_cons, List.foldl_nil]
        go_frame
        try simp only [u4]
        go_wp2_with fail
        exact ⟨rfl, _, rfl, Below.refl _ _, rfl⟩
      refine HSteps.cons ?_ ?_
      · intro f w' hb hU
        obtain u4 : f 102 = .tuple #[DV.zero.v, Lg.zero.v, .int .i64 13] := hU.get ⟨4, .data⟩ (by simp) rfl
        simp only [putAll, List.foldl_cons, List.foldl_nil]
        go_frame
        try simp only [u4]
        go_wp2_with fail
        exact ⟨rfl, _, rfl, Below.refl _ _, rfl⟩
      refine HSteps.cons ?_ ?_
      · intro f w' hb hU
        have hP : Blk _ w'.heap.size 38 DV.zero.cs := Blk.new w' _ _
        have hb3 : Below w'.heap.size w' _ := (Below.refl _ _).alloc (Nat.le_refl _) (.cells (DV.zero.cs).toArray 38)
        simp only [putAll, List.foldl_cons, List.foldl_nil]
        go_frame
        go_wp2_with fail
        exact ⟨rfl, _, rfl, hb3, _, rfl, hb.size, hP⟩
      refine HSteps.cons ?_ ?_
      · intro f w' hb hU
        have hP : Blk _ w'.heap.size 44 Lg.zero.cs := Blk.new w' _ _
        have hb3 : Below w'.heap.size w' _ := (Below.refl _ _).alloc (Nat.le_refl _) (.cells (Lg.zero.cs).toArray 44)
        simp only [putAll, List.foldl_cons, List.foldl_nil]
        go_frame
        go_wp2_with fail
        exact ⟨rfl, _, rfl, hb3, _, rfl, hb.size, hP⟩
      exact HSteps.nil
    case grow =>
      intro kq u wa wb hb hu
      rcases kq with _ | _ | _ | _ | _ | _ | _ | _ | _ | _ | kq
      · exact hu
      · exact hu
      · exact hu
      · exact hu
      · exact hu
      · exact hu
      · exact hu
      · exact hu
      · obtain ⟨b24, ue, uf0, uf1⟩ := hu
        exact ⟨b24, ue, uf0, uf1.keep hb⟩
      · obtain ⟨b25, ue, uf0, uf1⟩ := hu
        exact ⟨b25, ue, uf0, uf1.keep hb⟩
      · trivial
    case tail =>
      intro f w7 hb7 hU
      obtain u5 : f 107 = DV.zero.v := hU.get 5 (by decide)
      obtain u6 : f 108 = Lg.zero.v := hU.get 6 (by decide)
      obtain u7 : f 109 = .int .i64 13 := hU.get 7 (by decide)
      obtain ⟨b24, u8, v8_0, v8_1⟩ : ∃ (b24 : Nat), f 24 = .pointer (some ⟨b24, 0, none⟩) ∧ w8.heap.size ≤ b24 ∧ Blk w7 b24 38 DV.zero.cs := hU.get 8 (by decide)
      obtain ⟨b25, u9, v9_0, v9_1⟩ : ∃ (b25 : Nat), f 25 = .pointer (some ⟨b25, 0, none⟩) ∧ w8.heap.size ≤ b25 ∧ Blk w7 b25 44 Lg.zero.cs := hU.get 9 (by decide)
      simp only [List.drop_succ_cons, List.drop_zero, putAll, List.foldl_cons, List.foldl_nil]
      go_frame
      simp only [u5, u6, u7, u8, u9]
      clear u5 u6 u7 u8 u9
      clear hU
      have hw8 := B.size
      replace k8d := k8d.keep hb7
      replace k17 := k17.keep hb7
      replace B := B.trans (hb7.mono B.size)
      have hne : ¬ b24 = b25 := Blk.ne v8_1 v9_1 (by decide)
      have hs7 := hb7.size
      go_wp2_with (first
        | ((with_reducible refine is_store 38 ?_); refine wp_storeB b24 _ _ DV.zero.cs v8_1 diskN rfl (dv_one _) rfl rfl ?_; intro wa ka ra; go_frame)
        | ((with_reducible refine is_store 44 ?_); refine wp_storeB b25 _ _ Lg.zero.cs (v9_1.grown ra (by simpa using hne)) logN rfl (lg_one _) rfl rfl ?_; intro wb kb rb; go_frame))
      refine noPanic_ok ?_
      replace k17 := (k17.grown ra (by simp; omega)).grown rb (by simp; omega)
      have hwB := B.size
      replace B := B.grown ra B.size (fun z hz => by cases hz; omega)
      replace B := B.grown rb B.size (fun z hz => by cases hz; omega)
      clear k8d ka ra kb rb v8_1 v9_1 v8_0 v9_0 hne hs7 hb7 l8 l17 hwB
      obtain ⟨z0, z1, z2, z3, z4, z5⟩ := k17.c6
      have l17 := k17.lt
      dsimp only [Lg.zero] at z0 z1 z2 z3 z4 z5
      simp only [show ((0 : Nat) : Int) = 0 from rfl] at z0 z1 z2 z3 z4 z5
      go_wp2_with fail
      have R := next_any Lg.zero wb
      dsimp only [Lg.v, Lg.zero] at R
      simp only [show ((0 : Nat) : Int) = 0 from rfl] at R
      refine R.mono ?_
      clear R
      rintro e wc ⟨rfl, bc⟩
      replace k17 := k17.keep bc
      replace B := B.trans (bc.mono B.size)
      clear bc z0 z1 z2 z3 z4 z5 l17
      obtain ⟨z0, z1, z2, z3, z4, z5⟩ := k17.c6
      have l17 := k17.lt
      dsimp only [Lg.zero] at z0 z1 z2 z3 z4 z5
      simp only [show ((0 : Nat) : Int) = 0 from rfl] at z0 z1 z2 z3 z4 z5
      go_wp2_with fail
      have R := room_any Lg.zero wc Lg.zero_ok
      rw [show Lg.zero.room = -8 from rfl] at R
      dsimp only [Lg.v, Lg.zero] at R
      simp only [show ((0 : Nat) : Int) = 0 from rfl] at R
      refine R.mono ?_
      clear R
      rintro e wd ⟨rfl, bd⟩
      replace B := B.trans (bd.mono B.size)
      clear bd z0 z1 z2 z3 z4 z5 l17 k17
      go_wp2_with fail
      refine (awake_any _ (HTb.out.keep B)).mono ?_
      rintro e we ⟨rfl, be⟩
      go_wp2_with fail
      go_ret
      exact ⟨rfl, B.trans (be.mono B.size)⟩
set_option maxRecDepth 100000 in
set_option maxHeartbeats 8000000 in
theorem refuses_yes (s : Int) (fn mn : Nat) (w : World) (hT : Tab w) (hs : -128 ≤ s ∧ s ≤ 127) (hf : fn ≤ 127) (hm : mn ≤ 127) (h2 : 2 ≤ mn) (hyes : ∀ q : Nat, wrap64 (1 + (wrap64 (IntKind.i8.wrap (s.tmod 30 + 30))).tmod 30) = (q : Int) → fn + mn ≤ q) :
    Calls Tryd.prog 5 #[.int .i8 s, .int .i8 fn, .int .i8 mn] w fun e w' => e = .returned (.bool true) ∧ Below w.heap.size w w' := by
  have HTb := hid hT
  clear hT
  obtain ⟨q, hq, hq1, hq2⟩ := refuses_size s hs
  replace hyes := hyes q hq
  have ef := IntWalk.i64_in (fn : Int) (by omega)
  have em := IntWalk.i64_in (mn : Int) (by omega)
  have efm := IntWalk.i64_in ((fn : Int) + (mn : Int)) (by omega)
  have t1 : ¬ (mn : Int) < 2 := by omega
  have t2 : ¬ (fn : Int) < 0 := by omega
  have t3 : ¬ (fn : Int) + (mn : Int) > (q : Int) := by omega
  go_enter Tryd.func5, Tryd.ntmps5
  go_wp2_with fail
  skip
  refine (new_ok q w (by omega) (by omega)).mono ?_
  rintro e w0 ⟨rfl, b0⟩
  simp only [DV.v, show ((0 : Nat) : Int) = 0 from rfl]
  have HQ := hid hq
  clear hq
  go_wp2_with (first
    | ((with_reducible refine is_alloc 38 ?_); refine wp_allocB (w := w0) _ arrDisk ?_; intro w5 k5 b5 s5; go_frame)
    | ((with_reducible refine is_store 38 ?_); refine wp_storeB w0.heap.size _ _ (⟨q, none, none, none, 0⟩ : DV).cs k5 diskN rfl (dv_one _) rfl rfl ?_; intro w1 k8d r6; go_frame; obtain ⟨x0, x1, x2, x3, x4⟩ := k8d.c5; dsimp only at x0 x1 x2 x3 x4; simp only [show ((0 : Nat) : Int) = 0 from rfl] at x4; have l8 := k8d.lt))
  have B := (b0.trans (b5.mono b0.size)).grown r6 (by have := b0.size; have := b5.size; omega) (fun z hz => by cases hz; exact b0.size)
  clear b0 b5 s5 k5 r6
  generalize w0.heap.size = g8 at *
  clear w0
  have R := create_good (⟨q, none, none, none, 0⟩ : DV) (Dk.new q) fn mn w1 (DkV.new w1 q (by omega)) (HTb.out.keep B) (by omega) (by show fn + mn ≤ q; omega) (by show (0 : Nat) ≤ _; omega)
  dsimp only [DV.v] at R
  simp only [show ((0 : Nat) : Int) = 0 from rfl] at R
  refine R.mono ?_
  clear R
  rintro e w2 ⟨dx, rfl, hdx, b2⟩
  replace k8d := k8d.keep b2
  replace B := B.trans (b2.mono B.size)
  have hg := k8d.lt
  clear b2 x0 x1 x2 x3 x4 l8
  simp only [DV.v, Lg.v]
  go_wp2_with (first
    | ((with_reducible refine is_alloc 38 ?_); refine wp_allocB (w := w2) _ arrDisk ?_; intro w5 k5 b5 s5; go_frame)
    | ((with_reducible refine is_alloc 44 ?_); refine wp_allocN (w2.heap.size + 1) s5 _ arrLog ?_; intro w6 k6 b6 s6; go_frame)
    | ((with_reducible refine is_store 38 ?_); refine wp_storeB w2.heap.size _ _ dx.cs (k5.keep (by rw [s5]; exact b6)) diskN rfl (dv_one _) rfl rfl ?_; intro w7 k7 r7; go_frame)
    | ((with_reducible refine is_store 44 ?_); refine wp_storeB (w2.heap.size + 1) _ _ (Lg.first fn mn).cs (k6.grown r7 (by simp)) logN rfl (lg_one _) rfl rfl ?_; intro w8 k8 r8; go_frame; have P := pair_in k5 b5 s5 k6 b6 k7 r7 k8 r8; have j8 := k8d.keep P.1; obtain ⟨x0, x1, x2, x3, x4⟩ := j8.c5; have l8 := j8.lt; dsimp only at x0 x1 x2 x3 x4))
  have k11 := P.2.1
  have k12 := P.2.2
  replace hdx := hdx.keep P.1
  replace k8d := k8d.keep P.1
  replace B := B.trans (P.1.mono B.size)
  clear k5 b5 s5 k6 b6 s6 k7 r7 k8 r8 P hg
  have hx11 : w2.heap.size < w8.heap.size := k11.lt
  have hx12 : w2.heap.size + 1 < w8.heap.size := k12.lt
  generalize w2.heap.size = g11 at *
  clear w2
  skip
  have R := wopen_any (⟨q, none, none, none, 0⟩ : DV) (Dk.new q) fn mn w8 (DkV.new w8 q (by omega)) (HTb.out.keep B) (by omega) (by show fn + mn ≤ q; omega)
  rw [fresh_open] at R
  unfold wopenE at R
  dsimp only [DV.v] at R
  simp only [show ((0 : Nat) : Int) = 0 from rfl] at R
  refine R.mono ?_
  clear R
  rintro e w9 ⟨rfl, b9⟩
  replace k8d := k8d.keep b9
  replace k11 := k11.keep b9
  replace k12 := k12.keep b9
  replace hdx := hdx.keep b9
  clear hx11 hx12
  replace B := B.trans (b9.mono B.size)
  clear b9 x0 x1 x2 x3 x4 l8
  simp only [Lg.v]
  go_wp2_with (first
    | ((with_reducible refine is_alloc 44 ?_); refine wp_allocB (w := w9) _ arrLog ?_; intro w5 k5 b5 s5; go_frame)
    | ((with_reducible refine is_store 44 ?_); refine wp_storeB w9.heap.size _ _ Lg.zero.cs k5 logN rfl (lg_one _) rfl rfl ?_; intro w6 k6 r6; go_frame)
    | ((with_reducible refine is_alloc 44 ?_); refine wp_allocB (w := w6) _ arrLog ?_; intro w7 k17 b7 s7; go_frame; have P := one_in k5 b5 s5 r6 b7; have j8 := k8d.keep P; obtain ⟨x0, x1, x2, x3, x4⟩ := j8.c5; have l8 := j8.lt; dsimp only at x0 x1 x2 x3 x4; simp only [show ((0 : Nat) : Int) = 0 from rfl] at x4; obtain ⟨z0, z1, z2, z3, z4, z5⟩ := k17.c6; have l17 := k17.lt; dsimp only [Lg.zero] at z0 z1 z2 z3 z4 z5; simp only [show ((0 : Nat) : Int) = 0 from rfl] at z0 z1 z2 z3 z4 z5))
  replace k8d := k8d.keep P
  replace k11 := k11.keep P
  replace k12 := k12.keep P
  replace hdx := hdx.keep P
  replace B := B.trans (P.mono B.size)
  clear k5 b5 s5 k6 r6 b7 s7 P
  generalize w9.heap.size = g14 at *
  generalize w6.heap.size = g17 at *
  clear w9
  have R := reset_no Lg.zero (⟨q, none, none, none, 0⟩ : DV) w7 Lg.zero_ok (.inl (by decide)) (by show q ≤ _; omega)
  dsimp only [DV.v, Lg.v, Lg.zero] at R
  simp only [show ((0 : Nat) : Int) = 0 from rfl] at R
  refine R.mono ?_
  clear R
  rintro e w10 ⟨rfl, b10⟩
  replace k8d := k8d.keep b10
  replace k17 := k17.keep b10
  replace k11 := k11.keep b10
  replace k12 := k12.keep b10
  replace hdx := hdx.keep b10
  replace B := B.trans (b10.mono B.size)
  clear b10 x0 x1 x2 x3 x4 l8 z0 z1 z2 z3 z4 z5 l17
  simp only [DV.v, Lg.v]
  go_wp2_with (first
    | ((with_reducible refine is_alloc 38 ?_); refine wp_allocB (w := w10) _ arrDisk ?_; intro w5 k5 b5 s5; go_frame)
    | ((with_reducible refine is_alloc 44 ?_); refine wp_allocN (w10.heap.size + 1) s5 _ arrLog ?_; intro w6 k6 b6 s6; go_frame)
    | ((with_reducible refine is_store 38 ?_); refine wp_storeB w10.heap.size _ _ DV.zero.cs (k5.keep (by rw [s5]; exact b6)) diskN rfl (dv_one _) rfl rfl ?_; intro w7 k7 r7; go_frame)
    | ((with_reducible refine is_store 44 ?_); refine wp_storeB (w10.heap.size + 1) _ _ Lg.zero.cs (k6.grown r7 (by simp)) logN rfl (lg_one _) rfl rfl ?_; intro w8 k8 r8; go_frame; have P := pair_in k5 b5 s5 k6 b6 k7 r7 k8 r8; have j8 := k8d.keep P.1; obtain ⟨x0, x1, x2, x3, x4⟩ := j8.c5; have l8 := j8.lt; dsimp only at x0 x1 x2 x3 x4; simp only [show ((0 : Nat) : Int) = 0 from rfl] at x4; have j17 := k17.keep P.1; obtain ⟨z0, z1, z2, z3, z4, z5⟩ := j17.c6; have l17 := j17.lt; dsimp only [Lg.zero] at z0 z1 z2 z3 z4 z5; simp only [show ((0 : Nat) : Int) = 0 from rfl] at z0 z1 z2 z3 z4 z5))
  replace k8d := k8d.keep P.1
  replace k17 := k17.keep P.1
  replace k11 := k11.keep P.1
  replace k12 := k12.keep P.1
  replace hdx := hdx.keep P.1
  replace B := B.trans (P.1.mono B.size)
  clear k5 b5 s5 k6 b6 s6 k7 r7 k8 r8 P
  generalize w10.heap.size = g18 at *
  clear w10
  have R := append_full Lg.zero (⟨q, none, none, none, 0⟩ : DV) none 0 0 w8 Lg.zero_ok (by omega) (by decide)
  dsimp only [DV.v, Lg.v, Lg.zero] at R
  simp only [show ((0 : Nat) : Int) = 0 from rfl] at R
  refine R.mono ?_
  clear R
  rintro e w10 ⟨rfl, b10⟩
  replace k8d := k8d.keep b10
  replace k17 := k17.keep b10
  replace k11 := k11.keep b10
  replace k12 := k12.keep b10
  replace hdx := hdx.keep b10
  replace B := B.trans (b10.mono B.size)
  clear b10 x0 x1 x2 x3 x4 l8 z0 z1 z2 z3 z4 z5 l17
  simp only [DV.v, Lg.v]
  go_wp2_with (first
    | ((with_reducible refine is_alloc 38 ?_); refine wp_allocB (w := w10) _ arrDisk ?_; intro w5 k5 b5 s5; go_frame)
    | ((with_reducible refine is_alloc 44 ?_); refine wp_allocN (w10.heap.size + 1) s5 _ arrLog ?_; intro w6 k6 b6 s6; go_frame)
    | ((with_reducible refine is_store 38 ?_); refine wp_storeB w10.heap.size _ _ DV.zero.cs (k5.keep (by rw [s5]; exact b6)) diskN rfl (dv_one _) rfl rfl ?_; intro w7 k7 r7; go_frame)
    | ((with_reducible refine is_store 44 ?_); refine wp_storeB (w10.heap.size + 1) _ _ Lg.zero.cs (k6.grown r7 (by simp)) logN rfl (lg_one _) rfl rfl ?_; intro w8 k8 r8; go_frame; have P := pair_in k5 b5 s5 k6 b6 k7 r7 k8 r8; ))
  replace k8d := k8d.keep P.1
  replace k17 := k17.keep P.1
  replace k11 := k11.keep P.1
  replace k12 := k12.keep P.1
  replace hdx := hdx.keep P.1
  replace B := B.trans (P.1.mono B.size)
  clear k5 b5 s5 k6 b6 s6 k7 r7 k8 r8 P
  generalize w10.heap.size = g21 at *
  clear w10
  have l8 := k8d.lt
  have l17 := k17.lt
  refine wp_region_headF 184 10 [103, 104, 105, 106, 102, 107, 108, 109, 24, 25] [6, 7] ((fun kq => ([fun u w' => u = .agg #[.int .i64 0, .int .i64 0, .int .u64 0, .int .u64 0, .int .u64 0, .int .i64 0], fun u w' => u = (⟨q, none, none, none, 0⟩ : DV).v, fun u w' => ∃ (g' : Nat), u = .slice (some ⟨g', 0, none⟩) 8193 8193, fun u w' => u = .tuple #[DV.zero.v, Lg.zero.v, .int .i64 13], fun u w' => u = .tuple #[DV.zero.v, Lg.zero.v, .int .i64 13], fun u w' => u = DV.zero.v, fun u w' => u = Lg.zero.v, fun u w' => u = .int .i64 13, fun u w' => ∃ (b24 : Nat), u = .pointer (some ⟨b24, 0, none⟩) ∧ w8.heap.size ≤ b24 ∧ Blk w' b24 38 DV.zero.cs, fun u w' => ∃ (b25 : Nat), u = .pointer (some ⟨b25, 0, none⟩) ∧ w8.heap.size ≤ b25 ∧ Blk w' b25 44 Lg.zero.cs] : List (Value → World → Prop)).getD kq (fun _ _ => True))) (by kernel_rfl) rfl (by kernel_rfl) ?grow ?step ?tail
  case step =>
    simp only [List.take_succ_cons, List.take_zero]
    refine HSteps.cons ?_ ?_
    · intro f w' hb hU
      obtain ⟨x0', x1', x2', x3', x4', x5'⟩ := (k17.keep hb).c6
      simp only [putAll, List.foldl_cons, List.foldl_nil]
      go_frame
      go_wp2_with fail
      exact ⟨rfl, _, rfl, Below.refl _ _, rfl⟩
    refine HSteps.cons ?_ ?_
    · intro f w' hb hU
      obtain ⟨x0', x1', x2', x3', x4'⟩ := (k8d.keep hb).c5
      simp only [putAll, List.foldl_cons, List.foldl_nil]
      go_frame
      go_wp2_with fail
      exact ⟨rfl, _, rfl, Below.refl _ _, rfl⟩
    refine HSteps.cons ?_ ?_
    · intro f w' hb hU
      simp only [putAll, List.foldl_cons, List.foldl_nil]
      go_frame
      go_wp2_with (at_make; refine wp_make _ rfl _ _ 25 rfl w'.heap.size 5 _ 1 bytesT rfl .i64 .i64 _ _ 8193 rfl rfl rfl rfl (by omega) (by unfold maxLen; omega) (Nat.le_refl _) ?_; intro w5 hown5 r5; go_frame)
      exact ⟨rfl, _, rfl, ((Below.refl _ _).grown r5 (Nat.le_refl _) (fun k hk => by cases hk)), _, rfl⟩
    refine HSteps.cons ?_ ?_
    · intro f w' hb hU
      obtain u0 : f 103 = .agg #[.int .i64 0, .int .i64 0, .int .u64 0, .int .u64 0, .int .u64 0, .int .i64 0] := hU.get ⟨0, .data⟩ (by simp) rfl
      obtain u1 : f 104 = (⟨q, none, none, none, 0⟩ : DV).v := hU.get ⟨1, .data⟩ (by simp) rfl
      obtain ⟨g', u2⟩ : ∃ (g' : Nat), f 105 = .slice (some ⟨g', 0, none⟩) 8193 8193 := hU.get ⟨2, .data⟩ (by simp) rfl
      have R := append_long Lg.zero (⟨q, none, none, none, 0⟩ : DV) (some ⟨g', 0, none⟩) 8193 8193 w' (by omega) (by omega)
      dsimp only [Lg.v, Lg.zero] at R
      simp only [show ((0 : Nat) : Int) = 0 from rfl] at R
      simp only [putAll, List.foldl_cons, List.foldl_nil]
      go_frame
      try simp only [u0, u1, u2]
      go_wp2_with fail
      refine (R).mono ?_
      rintro e w3 ⟨rfl, b3⟩
      go_wp2_with fail
      exact ⟨rfl, _, rfl, b3, rfl⟩
    refine HSteps.cons ?_ ?_
    · intro f w' hb hU
      obtain u3 : f 106 = .tuple #[DV.zero.v, Lg.zero.v, .int .i64 13] := hU.get ⟨3, .data⟩ (by simp) rfl
      simp only [putAll, List.foldl_cons, List.foldl_nil]
      go_frame
      try simp only [u3]
      go_wp2_with fail
      exact ⟨rfl, _, rfl, Below.refl _ _, rfl⟩
    refine HSteps.cons ?_ ?_
    · intro f w' hb hU
      obtain u4 : f 102 = .tuple #[DV.zero.v, Lg.zero.v, .int .i64 13] := hU.get ⟨4, .data⟩ (by simp) rfl
      simp only [putAll, List.foldl_cons, List.foldl_nil]
      go_frame
      try simp only [u4]
      go_wp2_with fail
      exact ⟨rfl, _, rfl, Below.refl _ _, rfl⟩
    refine HSteps.cons ?_ ?_
    · intro f w' hb hU
      obtain u4 : f 102 = .tuple #[DV.zero.v, Lg.zero.v, .int .i64 13] := hU.get ⟨4, .data⟩ (by simp) rfl
      simp only [putAll, List.foldl_cons, List.foldl_nil]
      go_frame
      try simp only [u4]
      go_wp2_with fail
      exact ⟨rfl, _, rfl, Below.refl _ _, rfl⟩
    refine HSteps.cons ?_ ?_
    · intro f w' hb hU
      obtain u4 : f 102 = .tuple #[DV.zero.v, Lg.zero.v, .int .i64 13] := hU.get ⟨4, .data⟩ (by simp) rfl
      simp only [putAll, List.foldl_cons, List.foldl_nil]
      go_frame
      try simp only [u4]
      go_wp2_with fail
      exact ⟨rfl, _, rfl, Below.refl _ _, rfl⟩
    refine HSteps.cons ?_ ?_
    · intro f w' hb hU
      have hP : Blk _ w'.heap.size 38 DV.zero.cs := Blk.new w' _ _
      have hb3 : Below w'.heap.size w' _ := (Below.refl _ _).alloc (Nat.le_refl _) (.cells (DV.zero.cs).toArray 38)
      simp only [putAll, List.foldl_cons, List.foldl_nil]
      go_frame
      go_wp2_with fail
      exact ⟨rfl, _, rfl, hb3, _, rfl, hb.size, hP⟩
    refine HSteps.cons ?_ ?_
    · intro f w' hb hU
      have hP : Blk _ w'.heap.size 44 Lg.zero.cs := Blk.new w' _ _
      have hb3 : Below w'.heap.size w' _ := (Below.refl _ _).alloc (Nat.le_refl _) (.cells (Lg.zero.cs).toArray 44)
      simp only [putAll, List.foldl_cons, List.foldl_nil]
      go_frame
      go_wp2_with fail
      exact ⟨rfl, _, rfl, hb3, _, rfl, hb.size, hP⟩
    exact HSteps.nil
  case grow =>
    intro kq u wa wb hb hu
    rcases kq with _ | _ | _ | _ | _ | _ | _ | _ | _ | _ | kq
    · exact hu
    · exact hu
    · exact hu
    · exact hu
    · exact hu
    · exact hu
    · exact hu
    · exact hu
    · obtain ⟨b24, ue, uf0, uf1⟩ := hu
      exact ⟨b24, ue, uf0, uf1.keep hb⟩
    · obtain ⟨b25, ue, uf0, uf1⟩ := hu
      exact ⟨b25, ue, uf0, uf1.keep hb⟩
    · trivial
  case tail =>
    intro f w7 hb7 hU
    obtain u5 : f 107 = DV.zero.v := hU.get 5 (by decide)
    obtain u6 : f 108 = Lg.zero.v := hU.get 6 (by decide)
    obtain u7 : f 109 = .int .i64 13 := hU.get 7 (by decide)
    obtain ⟨b24, u8, v8_0, v8_1⟩ : ∃ (b24 : Nat), f 24 = .pointer (some ⟨b24, 0, none⟩) ∧ w8.heap.size ≤ b24 ∧ Blk w7 b24 38 DV.zero.cs := hU.get 8 (by decide)
    obtain ⟨b25, u9, v9_0, v9_1⟩ : ∃ (b25 : Nat), f 25 = .pointer (some ⟨b25, 0, none⟩) ∧ w8.heap.size ≤ b25 ∧ Blk w7 b25 44 Lg.zero.cs := hU.get 9 (by decide)
    simp only [List.drop_succ_cons, List.drop_zero, putAll, List.foldl_cons, List.foldl_nil]
    go_frame
    simp only [u5, u6, u7, u8, u9]
    clear u5 u6 u7 u8 u9
    clear hU
    have hw8 := B.size
    have l11 := k11.lt
    have l12 := k12.lt
    replace k8d := k8d.keep hb7
    replace k17 := k17.keep hb7
    replace k11 := k11.keep hb7
    replace k12 := k12.keep hb7
    replace hdx := hdx.keep hb7
    replace B := B.trans (hb7.mono B.size)
    have hne : ¬ b24 = b25 := Blk.ne v8_1 v9_1 (by decide)
    have hs7 := hb7.size
    go_wp2_with (first
      | ((with_reducible refine is_store 38 ?_); refine wp_storeB b24 _ _ DV.zero.cs v8_1 diskN rfl (dv_one _) rfl rfl ?_; intro wa ka ra; go_frame)
      | ((with_reducible refine is_store 44 ?_); refine wp_storeB b25 _ _ Lg.zero.cs (v9_1.grown ra (by simpa using hne)) logN rfl (lg_one _) rfl rfl ?_; intro wb kb rb; go_frame))
    refine noPanic_ok ?_
    replace k17 := (k17.grown ra (by simp; omega)).grown rb (by simp; omega)
    replace k11 := (k11.grown ra (by simp; omega)).grown rb (by simp; omega)
    replace k12 := (k12.grown ra (by simp; omega)).grown rb (by simp; omega)
    replace hdx := (hdx.kept (Kept.grown ra v8_1 notDk)).kept (Kept.grown rb (v9_1.grown ra (by simpa using hne)) (by unfold dkT; decide))
    have hwB := B.size
    replace B := B.grown ra B.size (fun z hz => by cases hz; omega)
    replace B := B.grown rb B.size (fun z hz => by cases hz; omega)
    clear k8d ka ra kb rb v8_1 v9_1 v8_0 v9_0 hne hs7 hb7 l8 l11 l12 l17 hwB
    obtain ⟨z0, z1, z2, z3, z4, z5⟩ := k17.c6
    have l17 := k17.lt
    dsimp only [Lg.zero] at z0 z1 z2 z3 z4 z5
    simp only [show ((0 : Nat) : Int) = 0 from rfl] at z0 z1 z2 z3 z4 z5
    go_wp2_with fail
    have R := next_any Lg.zero wb
    dsimp only [Lg.v, Lg.zero] at R
    simp only [show ((0 : Nat) : Int) = 0 from rfl] at R
    refine R.mono ?_
    clear R
    rintro e wc ⟨rfl, bc⟩
    replace k17 := k17.keep bc
    replace k11 := k11.keep bc
    replace k12 := k12.keep bc
    replace hdx := hdx.keep bc
    replace B := B.trans (bc.mono B.size)
    clear bc z0 z1 z2 z3 z4 z5 l17
    obtain ⟨z0, z1, z2, z3, z4, z5⟩ := k17.c6
    have l17 := k17.lt
    dsimp only [Lg.zero] at z0 z1 z2 z3 z4 z5
    simp only [show ((0 : Nat) : Int) = 0 from rfl] at z0 z1 z2 z3 z4 z5
    go_wp2_with fail
    have R := room_any Lg.zero wc Lg.zero_ok
    rw [show Lg.zero.room = -8 from rfl] at R
    dsimp only [Lg.v, Lg.zero] at R
    simp only [show ((0 : Nat) : Int) = 0 from rfl] at R
    refine R.mono ?_
    clear R
    rintro e wd ⟨rfl, bd⟩
    replace k11 := k11.keep bd
    replace k12 := k12.keep bd
    replace hdx := hdx.keep bd
    replace B := B.trans (bd.mono B.size)
    clear bd z0 z1 z2 z3 z4 z5 l17 k17
    go_wp2_with fail
    have R := new_ok 1 wd (by omega) (by omega)
    simp only [show ((1 : Nat) : Int) = 1 from rfl] at R
    refine R.mono ?_
    clear R
    rintro e we ⟨rfl, be⟩
    replace k11 := k11.keep be
    replace k12 := k12.keep be
    replace hdx := hdx.keep be
    replace B := B.trans (be.mono B.size)
    clear be
    simp only [DV.v, show ((0 : Nat) : Int) = 0 from rfl, show ((1 : Nat) : Int) = 1 from rfl]
    go_wp2_with (first
      | ((with_reducible refine is_alloc 38 ?_); refine wp_allocB (w := we) _ arrDisk ?_; intro w5 k5 b5 s5; go_frame)
      | ((with_reducible refine is_store 38 ?_); refine wp_storeB we.heap.size _ _ (⟨1, none, none, none, 0⟩ : DV).cs k5 diskN rfl (dv_one _) rfl rfl ?_; intro w6 k6 r6; go_frame; have P := one_in' k5 b5 s5 r6; have k12' := k12.keep P; obtain ⟨x0, x1, x2, x3, x4⟩ := k6.c5; have l8 := k6.lt; dsimp only at x0 x1 x2 x3 x4; simp only [show ((0 : Nat) : Int) = 0 from rfl, show ((1 : Nat) : Int) = 1 from rfl] at x0 x4; obtain ⟨z0, z1, z2, z3, z4, z5⟩ := k12'.c6; have l17 := k12'.lt; dsimp only [Lg.first] at z0 z1 z2 z3 z4 z5; simp only [show ((1 : Nat) : Int) = 1 from rfl] at z0 z1 z2 z3 z4 z5))
    replace k11 := k11.keep P
    replace hdx := hdx.keep P
    replace B := B.trans (P.mono B.size)
    clear k12 k5 b5 s5 r6 P
    have R := reset_no (Lg.first fn mn) (⟨1, none, none, none, 0⟩ : DV) w6 (first_ok fn mn (by omega) (by omega) (by omega)) (.inr (by show 1 < fn + mn; omega)) (by show 1 ≤ _; omega)
    dsimp only [DV.v, Lg.v, Lg.first] at R
    simp only [show ((0 : Nat) : Int) = 0 from rfl, show ((1 : Nat) : Int) = 1 from rfl] at R
    refine R.mono ?_
    clear R
    rintro e wf ⟨rfl, bf⟩
    replace k11 := k11.keep bf
    replace hdx := hdx.keep bf
    replace B := B.trans (bf.mono B.size)
    clear bf x0 x1 x2 x3 x4 l8 z0 z1 z2 z3 z4 z5 l17 k6 k12'
    generalize we.heap.size = g27 at *
    simp only [DV.v, Lg.v]
    go_wp2_with (first
      | ((with_reducible refine is_alloc 38 ?_); refine wp_allocB (w := wf) _ arrDisk ?_; intro w5 k5 b5 s5; go_frame)
      | ((with_reducible refine is_alloc 44 ?_); refine wp_allocN (wf.heap.size + 1) s5 _ arrLog ?_; intro w6 k6 b6 s6; go_frame)
      | ((with_reducible refine is_store 38 ?_); refine wp_storeB wf.heap.size _ _ DV.zero.cs (k5.keep (by rw [s5]; exact b6)) diskN rfl (dv_one _) rfl rfl ?_; intro w7 k7 r7; go_frame)
      | ((with_reducible refine is_store 44 ?_); refine wp_storeB (wf.heap.size + 1) _ _ Lg.zero.cs (k6.grown r7 (by simp)) logN rfl (lg_one _) rfl rfl ?_; intro w8 k8 r8; go_frame; have P := pair_in k5 b5 s5 k6 b6 k7 r7 k8 r8; have k11' := k11.keep P.1; obtain ⟨x0, x1, x2, x3, x4⟩ := k11'.c5; have l8 := k11'.lt))
    replace k11 := k11.keep P.1
    replace hdx := hdx.keep P.1
    replace B := B.trans (P.1.mono B.size)
    clear k5 b5 s5 k6 b6 s6 k7 r7 k8 r8 P
    generalize wf.heap.size = g29 at *
    obtain ⟨l', ho⟩ := created_open q fn mn
    have R := wopen_any dx (created (Dk.new q) fn mn) fn mn w8 hdx (HTb.out.keep B) (by omega) (by unfold created; show fn + mn ≤ (putSecs _ _ _).n; rw [putSecs_n]; exact hyes)
    rw [ho] at R
    unfold wopenE at R
    dsimp only at R
    dsimp only [DV.v] at R
    refine R.mono ?_
    clear R ho
    rintro e wg ⟨⟨sA, sn, sc⟩, rfl, hrr, bg⟩
    have hen := hrr.e
    dsimp only [recsAt, List.length_nil] at hen
    subst hen
    replace B := B.trans (bg.mono B.size)
    clear bg x0 x1 x2 x3 x4 l8 hrr hdx k11
    simp only [Lg.v, Sl.v]
    go_wp2_with (first
      | ((with_reducible refine is_alloc 44 ?_); refine wp_allocB (w := wg) _ arrLog ?_; intro w5 k5 b5 s5; go_frame)
      | ((with_reducible refine is_store 44 ?_); refine wp_storeB wg.heap.size _ _ l'.cs k5 logN rfl (lg_one _) rfl rfl ?_; intro w6 k6 r6; go_frame))
    have P := one_in' k5 b5 s5 r6
    replace B := B.trans (P.mono B.size)
    refine (awake_any _ (HTb.out.keep B)).mono ?_
    rintro e we2 ⟨rfl, be⟩
    go_wp2_with fail
    go_ret
    exact ⟨rfl, B.trans (be.mono B.size)⟩
theorem refuses_walk (s f m : Int) (w : World) (hT : Tab w) (hs : -128 ≤ s ∧ s ≤ 127) (hf : -128 ≤ f ∧ f ≤ 127) (hm : -128 ≤ m ∧ m ≤ 127) :
    Calls Tryd.prog 5 #[.int .i8 s, .int .i8 f, .int .i8 m] w fun e w' => e = .returned (.bool true) ∧ Below w.heap.size w w' := by
  obtain ⟨q, hq, hq1, hq2⟩ := refuses_size s hs
  by_cases h : m < 2 ∨ f < 0 ∨ (q : Int) < f + m
  · exact refuses_no s f m w hT hs hf hm fun q' hq' => by
      have e : (q' : Int) = (q : Int) := hq'.symm.trans hq
      rw [e]
      exact h
  · obtain ⟨fn, rfl⟩ : ∃ k : Nat, f = k := ⟨f.toNat, by omega⟩
    obtain ⟨mn, rfl⟩ : ∃ k : Nat, m = k := ⟨m.toNat, by omega⟩
    exact refuses_yes s fn mn w hT hs (by omega) (by omega) (by omega) fun q' hq' => by
      have e : (q' : Int) = (q : Int) := hq'.symm.trans hq
      omega
end Go.Proofs.YtlokfndonjldpaaDoor

