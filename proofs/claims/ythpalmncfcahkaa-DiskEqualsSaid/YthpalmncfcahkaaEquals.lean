/- The walk of DiskEquals. Conditions: the acts read. -/
import Derived.Test.YthpalmncfcahkaaPair
set_option linter.unusedSimpArgs false
set_option linter.unusedVariables false
namespace Go.Proofs.Ythpalmncfcahkaa
open Go.RowKit

set_option maxRecDepth 100000 in
set_option maxHeartbeats 4000000 in
theorem equals_go (q : Nat) (A1 : Option Addr) (m1 c1 : Nat) (X1 : List Ac) (A2 : Option Addr) (m2 c2 : Nat) (X2 : List Ac) (w : World) (h1 : 1 ≤ q) (h2 : q ≤ 12) (h3 : m1 ≤ 60) (h4 : m2 ≤ 60)
    (hL1 : Hid (RL w 5 A1 m1 (X1.flatMap Ac.cs) ∧ (∀ x ∈ X1, x.ok) ∧ X1.length = m1)) (hL2 : Hid (RL w 5 A2 m2 (X2.flatMap Ac.cs) ∧ (∀ x ∈ X2, x.ok) ∧ X2.length = m2)) (hc1 : m1 ≤ c1) (hd1 : c1 ≤ 9223372036854775807) (hc2 : m2 ≤ c2) (hd2 : c2 ≤ 9223372036854775807) :
    Calls Try.prog 7 #[.int .i64 q, .slice A1 m1 c1, .slice A2 m2 c2] w fun e w' => e = .returned (.bool true) ∧ Below w.heap.size w w' := by
    go_enter Try.func7, Try.ntmps7
    go_wp2_with fail
    refine (few_yes q A1 m1 c1 w h1 h2 h3).mono ?_
    rintro e w' ⟨rfl, rfl⟩
    go_wp2_with fail
    refine (few_yes q A2 m2 c2 w h1 h2 h4).mono ?_
    rintro e w' ⟨rfl, rfl⟩
    go_wp2_with fail
    have R := played_any q none 0 0 [] w h1 h2 (by omega) rfl (RL.nil _ _ _) (by simp) (Nat.le_refl _) (by omega)
    simp only [DV.v, show ((0 : Nat) : Int) = 0 from rfl] at R
    refine R.mono ?_
    clear R
    rintro e v1 ⟨d1, rfl, hd1, b1⟩
    go_wp2_with fail
    have R := refNew_any q v1 (by omega) (fun _ => True) (fun _ _ => trivial)
    simp only [Rv.v, Sl.v] at R
    refine R.mono ?_
    clear R
    rintro e v2 ⟨x1, rfl, hx2, b2⟩
    have hd2 := hd1.keep b2
    have B2 := b1.trans (b2.mono b1.size)
    have hwv : w.heap.size ≤ v2.heap.size := B2.size
    clear hd1 b1 b2 
    go_wp2_with fail
    generalize hw3 : World.alloc (World.alloc v2 _) _ = v3
    obtain ⟨kd, kx, hB⟩ := two_boxes_r (cs1 := d1.cs) (cs2 := x1.cs) hw3
    clear hw3
    have B := B2.trans (hB.mono B2.size)
    have P1 : Pr v3 (fun b => True ∧ b < v2.heap.size) v2.heap.size (v2.heap.size + 1) d1 x1 (Dk.new q) := ⟨kd, hd2.keep hB, kx, hx2.lt.keep hB⟩

    clear kd kx hd2 hx2 hB B2 

    have hw1 : w.heap.size ≤ v2.heap.size ∧ w.heap.size ≤ v2.heap.size + 1 := ⟨hwv, by omega⟩
    clear hwv
    have P1 := P1.lt (N' := fun b => b ≠ v2.heap.size ∧ b ≠ v2.heap.size + 1) (fun b hb _ => ⟨by omega, by omega⟩)
    generalize v2.heap.size = G at *
    obtain ⟨H, hH⟩ : ∃ H, G + 1 = H := ⟨_, rfl⟩
    rw [hH] at P1 hw1 ⊢
    have hne1 : ¬ G = H := by omega
    go_wp2_with fail
    go_loopw [37] (fun i wr => ∃ (k : Nat) (d : DV) (x : Rv), k ≤ m1 ∧ i = .int .i64 k ∧ Pr wr (fun b => b ≠ G ∧ b ≠ H) G H d x (played q (X1.take k)) ∧ Below w.heap.size w wr) (fun i _ => m1 - (intOf i).toNat)
    case atStart => exact ⟨0, _, _, Nat.zero_le _, rfl, P1, B⟩
    case round =>
      obtain ⟨k1, e1, y1, hk1, rfl, P, hbel⟩ := hrel
      clear P1 B
      by_cases hlt : k1 < m1
      · obtain ⟨b, off, a, rfl, hbb, hx, hcell⟩ := (hL1.out.1.below hbel).el (f := Ac.cs) ac_len hlt (by omega)
        have e0 := hcell 0 _ rfl
        have e1 := hcell 1 _ rfl
        have e2 := hcell 2 _ rfl
        have e3 := hcell 3 _ rfl
        have e4 := hcell 4 _ rfl
        rw [Nat.add_zero] at e0
        have ha := hL1.out.2.1 a (List.mem_of_getElem? hx)
        have HN := hid (foldl_take q k1 X1 a hx)
        clear hcell hx
        obtain ⟨act, at_, aa, ab, ch⟩ := a
        dsimp only at e0 e1 e2 e3 e4
        obtain ⟨x0', x1', x2', x3', x4'⟩ := P.k.c5
        obtain ⟨y0, y1⟩ := rv2 P.bx
        have hgl := P.k.lt
        have hhl := P.bx.lt
        go_wp2_with fail
        have hP : Blk (wr.alloc (.cells #[.int .u8 act, .int .i16 at_, .int .u8 (N8 aa), .int .u8 (N8 ab), .int .u64 ch] 53)) wr.heap.size 53 [.int .u8 act, .int .i16 at_, .int .u8 (N8 aa), .int .u8 (N8 ab), .int .u64 ch] := Blk.new wr _ _
        have hB : Below wr.heap.size wr (wr.alloc (.cells #[.int .u8 act, .int .i16 at_, .int .u8 (N8 aa), .int .u8 (N8 ab), .int .u64 ch] 53)) := (Below.refl _ _).alloc (Nat.le_refl _) _
        have hS : (wr.alloc (.cells #[.int .u8 act, .int .i16 at_, .int .u8 (N8 aa), .int .u8 (N8 ab), .int .u64 ch] 53)).heap.size = wr.heap.size + 1 := by simp
        generalize (wr.alloc (.cells #[.int .u8 act, .int .i16 at_, .int .u8 (N8 aa), .int .u8 (N8 ab), .int .u64 ch] 53)) = w6 at hP hB hS ⊢
        have P6 := P.keep hB
        have B6 := hbel.trans (hB.mono hbel.size)

        clear e0 e1 e2 e3 e4 x0' x1' x2' x3' x4' y0 y1 hP hB
        obtain ⟨E, hE⟩ : ∃ z, played q (X1.take k1) = z := ⟨_, rfl⟩
        have hEn : E.n = q := by rw [← hE]; exact played_n q _ _
        have hEW : E.W.length ≤ 60 := by rw [← hE]; exact Nat.le_trans (played_W _ _) (by simp [Dk.new, List.length_take]; omega)
        rw [hE] at P6
        have R2 := do_any (fun b => b ≠ G ∧ b ≠ H) e1 y1 ⟨act, at_, aa, ab, ch⟩ E E w6 (fun b hb => by have := P6.k.lt; have := P6.bx.lt; refine ⟨?_, ?_⟩ <;> omega) P6.dk P6.r rfl ha (by omega) (by omega)
        simp only [DV.v, Rv.v, Sl.v, Ac.v] at R2
        have HN2 := hid (HN.out.trans (congrArg (fun z => doK z ⟨act, at_, aa, ab, ch⟩) hE))
        clear hE HN
        obtain ⟨E', hE'⟩ : ∃ z, doK E ⟨act, at_, aa, ab, ch⟩ = z := ⟨_, rfl⟩
        rw [hE'] at R2
        have HN3 := hid (HN2.out.trans hE')
        clear hE' HN2
        refine R2.mono ?_
        clear R2
        rintro e w7 ⟨d', x', rfl, hd7, hx7, b7⟩
        have P7 := P6.keep b7
        have B7 := B6.trans (b7.mono B6.size)

        have hgl7 := P7.k.lt
        have hhl7 := P7.bx.lt
        clear P6 B6 b7 P hbel 
        go_wp2_with (first | ((with_reducible refine is_store 25 ?_); refine wp_storeB G _ _ d'.cs P7.k diskN rfl (dv_one _) rfl rfl ?_; intro w8 k8 r8; go_frame) | ((with_reducible refine is_store 48 ?_); refine wp_storeB H _ _ x'.cs (P7.bx.grown r8 (by simpa using hne1)) refN rfl (rv_one _) rfl rfl ?_; intro w9 k9 r9; go_frame))
        have kx8 := P7.bx.grown r8 (by simpa using hne1)
        have P9 := P7.put (fun h => h.1 rfl) (fun h => h.2 rfl) hne1 hd7 hx7 k8 r8 k9 r9
        have B9 := (B7.grown r8 B7.size (fun q hq => by cases hq; exact hw1.1)).grown r9 (by have := r8.size; have := B7.size; omega) (fun q hq => by cases hq; exact hw1.2)

        clear P7 B7 k8 r8 kx8 k9 r9 hd7 hx7 
        go_wp2_with fail
        go_roundw
        case rel => exact ⟨k1 + 1, d', x', by omega, by go_num, by rw [HN3.out]; exact P9, B9⟩
        case measure => simp [intOf]; omega
      · obtain rfl : k1 = m1 := by omega
        rw [List.take_of_length_le (by rw [hL1.out.2.2]; exact Nat.le_refl _)] at P

        clear hlt hk1
        go_wp2_with fail
        have R := played_any q none 0 0 [] wr h1 h2 (by omega) rfl (RL.nil _ _ _) (by simp) (Nat.le_refl _) (by omega)
        simp only [DV.v, show ((0 : Nat) : Int) = 0 from rfl] at R
        refine R.mono ?_
        clear R
        rintro e v1 ⟨d2, rfl, hd1, b1⟩
        go_wp2_with fail
        have Og1 : G < v1.heap.size ∧ H < v1.heap.size := ⟨(P.keep b1).k.lt, (P.keep b1).bx.lt⟩
        have R := refNew_any q v1 (by omega) (fun b => b ≠ G ∧ b ≠ H) (fun b hb => ⟨by omega, by omega⟩)
        simp only [Rv.v, Sl.v] at R
        refine R.mono ?_
        clear R
        rintro e v2 ⟨x2, rfl, hx2, b2⟩
        have hd2 := hd1.keep b2
        have O2 := (P.keep b1).keep b2
        have B2 := (hbel.trans (b1.mono hbel.size)).trans (b2.mono (hbel.trans (b1.mono hbel.size)).size)
        have hwv : w.heap.size ≤ v2.heap.size := B2.size
        clear hd1 b1 b2 P hbel
        go_wp2_with fail
        generalize hw3 : World.alloc (World.alloc v2 _) _ = v3
        obtain ⟨kd, kx, hB⟩ := two_boxes_r (cs1 := d2.cs) (cs2 := x2.cs) hw3
        clear hw3
        have B := B2.trans (hB.mono B2.size)
        have P2 : Pr v3 (fun b => (b ≠ G ∧ b ≠ H) ∧ b < v2.heap.size) v2.heap.size (v2.heap.size + 1) d2 x2 (Dk.new q) := ⟨kd, hd2.keep hB, kx, hx2.lt.keep hB⟩
        have Og : G < v2.heap.size ∧ H < v2.heap.size := ⟨O2.k.lt, O2.bx.lt⟩
        have O3 := O2.lt (N' := fun b => b ≠ G ∧ b ≠ H ∧ b ≠ v2.heap.size ∧ b ≠ v2.heap.size + 1) (fun b hb hl => ⟨hb.1, hb.2, by omega, by omega⟩)
        have Po := O3.keep hB
        clear kd kx hd2 hx2 hB B2 O2 O3

        have hw2 : w.heap.size ≤ v2.heap.size ∧ w.heap.size ≤ v2.heap.size + 1 := ⟨hwv, by omega⟩
        clear hwv
        have P2 := P2.lt (N' := fun b => b ≠ G ∧ b ≠ H ∧ b ≠ v2.heap.size ∧ b ≠ v2.heap.size + 1) (fun b hb _ => ⟨hb.1.1, hb.1.2, by omega, by omega⟩)
        generalize v2.heap.size = G2 at *
        obtain ⟨H2, hH2⟩ : ∃ H2, G2 + 1 = H2 := ⟨_, rfl⟩
        rw [hH2] at P2 hw2 Po ⊢
        have hne2 : ¬ G2 = H2 := by omega
        have hq : ¬ G2 = G ∧ ¬ G2 = H ∧ ¬ H2 = G ∧ ¬ H2 = H := ⟨by omega, by omega, by omega, by omega⟩
        go_wp2_with fail
        go_loopw [56] (fun i wr => ∃ (k : Nat) (d : DV) (x : Rv), k ≤ m2 ∧ i = .int .i64 k ∧ Pr wr (fun b => b ≠ G ∧ b ≠ H ∧ b ≠ G2 ∧ b ≠ H2) G2 H2 d x (played q (X2.take k)) ∧ Below w.heap.size w wr ∧ Pr wr (fun b => b ≠ G ∧ b ≠ H ∧ b ≠ G2 ∧ b ≠ H2) G H e1 y1 (played q X1)) (fun i _ => m2 - (intOf i).toNat)
        case atStart => exact ⟨0, _, _, Nat.zero_le _, rfl, P2, B, Po⟩
        case round =>
          obtain ⟨k2, e2, y2, hk2, rfl, P, hbel, O⟩ := hrel
          clear P2 B Po
          by_cases hlt : k2 < m2
          · obtain ⟨b, off, a, rfl, hbb, hx, hcell⟩ := (hL2.out.1.below hbel).el (f := Ac.cs) ac_len hlt (by omega)
            have e0 := hcell 0 _ rfl
            have e1 := hcell 1 _ rfl
            have e2 := hcell 2 _ rfl
            have e3 := hcell 3 _ rfl
            have e4 := hcell 4 _ rfl
            rw [Nat.add_zero] at e0
            have ha := hL2.out.2.1 a (List.mem_of_getElem? hx)
            have HN := hid (foldl_take q k2 X2 a hx)
            clear hcell hx
            obtain ⟨act, at_, aa, ab, ch⟩ := a
            dsimp only at e0 e1 e2 e3 e4
            obtain ⟨x0', x1', x2', x3', x4'⟩ := P.k.c5
            obtain ⟨y0, y1⟩ := rv2 P.bx
            have hgl := P.k.lt
            have hhl := P.bx.lt
            go_wp2_with fail
            have hP : Blk (wr.alloc (.cells #[.int .u8 act, .int .i16 at_, .int .u8 (N8 aa), .int .u8 (N8 ab), .int .u64 ch] 53)) wr.heap.size 53 [.int .u8 act, .int .i16 at_, .int .u8 (N8 aa), .int .u8 (N8 ab), .int .u64 ch] := Blk.new wr _ _
            have hB : Below wr.heap.size wr (wr.alloc (.cells #[.int .u8 act, .int .i16 at_, .int .u8 (N8 aa), .int .u8 (N8 ab), .int .u64 ch] 53)) := (Below.refl _ _).alloc (Nat.le_refl _) _
            have hS : (wr.alloc (.cells #[.int .u8 act, .int .i16 at_, .int .u8 (N8 aa), .int .u8 (N8 ab), .int .u64 ch] 53)).heap.size = wr.heap.size + 1 := by simp
            generalize (wr.alloc (.cells #[.int .u8 act, .int .i16 at_, .int .u8 (N8 aa), .int .u8 (N8 ab), .int .u64 ch] 53)) = w6 at hP hB hS ⊢
            have P6 := P.keep hB
            have B6 := hbel.trans (hB.mono hbel.size)
            have O6 := O.keep hB
            clear e0 e1 e2 e3 e4 x0' x1' x2' x3' x4' y0 y1 hP hB
            obtain ⟨E, hE⟩ : ∃ z, played q (X2.take k2) = z := ⟨_, rfl⟩
            have hEn : E.n = q := by rw [← hE]; exact played_n q _ _
            have hEW : E.W.length ≤ 60 := by rw [← hE]; exact Nat.le_trans (played_W _ _) (by simp [Dk.new, List.length_take]; omega)
            rw [hE] at P6
            have R2 := do_any (fun b => b ≠ G ∧ b ≠ H ∧ b ≠ G2 ∧ b ≠ H2) e2 y2 ⟨act, at_, aa, ab, ch⟩ E E w6 (fun b hb => by have := P6.k.lt; have := P6.bx.lt; have := O6.k.lt; have := O6.bx.lt; refine ⟨?_, ?_, ?_, ?_⟩ <;> omega) P6.dk P6.r rfl ha (by omega) (by omega)
            simp only [DV.v, Rv.v, Sl.v, Ac.v] at R2
            have HN2 := hid (HN.out.trans (congrArg (fun z => doK z ⟨act, at_, aa, ab, ch⟩) hE))
            clear hE HN
            obtain ⟨E', hE'⟩ : ∃ z, doK E ⟨act, at_, aa, ab, ch⟩ = z := ⟨_, rfl⟩
            rw [hE'] at R2
            have HN3 := hid (HN2.out.trans hE')
            clear hE' HN2
            refine R2.mono ?_
            clear R2
            rintro e w7 ⟨d', x', rfl, hd7, hx7, b7⟩
            have P7 := P6.keep b7
            have B7 := B6.trans (b7.mono B6.size)
            have O7 := O6.keep b7
            have hgl7 := P7.k.lt
            have hhl7 := P7.bx.lt
            clear P6 B6 b7 P hbel O O6
            go_wp2_with (first | ((with_reducible refine is_store 25 ?_); refine wp_storeB G2 _ _ d'.cs P7.k diskN rfl (dv_one _) rfl rfl ?_; intro w8 k8 r8; go_frame) | ((with_reducible refine is_store 48 ?_); refine wp_storeB H2 _ _ x'.cs (P7.bx.grown r8 (by simpa using hne2)) refN rfl (rv_one _) rfl rfl ?_; intro w9 k9 r9; go_frame))
            have kx8 := P7.bx.grown r8 (by simpa using hne2)
            have P9 := P7.put (fun h => h.2.2.1 rfl) (fun h => h.2.2.2 rfl) hne2 hd7 hx7 k8 r8 k9 r9
            have B9 := (B7.grown r8 B7.size (fun q hq => by cases hq; exact hw2.1)).grown r9 (by have := r8.size; have := B7.size; omega) (fun q hq => by cases hq; exact hw2.2)
            have O9 := O7.off (fun h => h.2.2.1 rfl) (fun h => h.2.2.2 rfl) hq.1 hq.2.1 hq.2.2.1 hq.2.2.2 P7.k r8 kx8 r9
            clear P7 B7 k8 r8 kx8 k9 r9 hd7 hx7 O7
            go_wp2_with fail
            go_roundw
            case rel => exact ⟨k2 + 1, d', x', by omega, by go_num, by rw [HN3.out]; exact P9, B9, O9⟩
            case measure => simp [intOf]; omega
          · obtain rfl : k2 = m2 := by omega
            rw [List.take_of_length_le (by rw [hL2.out.2.2]; exact Nat.le_refl _)] at P

            have hDl : (played q X1).W.length ≤ 60 := Nat.le_trans (played_W _ _) (by have := hL1.out.2.2; simp only [Dk.new, List.length_nil]; omega)
            clear hlt hk2 hw1 hw2 hq hL1 hL2
            obtain ⟨DD, hDD⟩ : ∃ z, played q X1 = z := ⟨_, rfl⟩
            obtain ⟨EE, hEE⟩ : ∃ z, played q X2 = z := ⟨_, rfl⟩
            have hDn : DD.n = q := by rw [← hDD]; exact played_n q _ _
            have hEn : EE.n = q := by rw [← hEE]; exact played_n q _ _
            rw [hDD] at O hDl
            rw [hEE] at P
            clear hDD hEE
            have dS := O.r.s.e.trans hDn
            have eS := P.r.s.e.trans hEn
            have dW : y1.W.n = DD.W.length := by rw [O.r.w.e, List.length_reverse]
            have eW : y2.W.n = EE.W.length := by rw [P.r.w.e, List.length_reverse]
            obtain ⟨s0, hs0⟩ : ∃ z, decide (DD.W.length = EE.W.length) = z := ⟨_, rfl⟩
            have t0 : ((y1.W.n : Int) == (y2.W.n : Int)) = s0 := by
              rw [← hs0, dW, eW, Bool.eq_iff_iff]
              simp only [beq_iff_eq, decide_eq_true_eq]
              omega
            have HS := hid (And.intro dS (And.intro eS (And.intro dW (And.intro eW hs0))))
            clear dS eS dW eW hs0
            obtain ⟨a0, a1⟩ := rv2 O.bx
            obtain ⟨b0, b1⟩ := rv2 P.bx
            rw [HS.out.1] at a0
            have l1 := O.bx.lt
            have l2 := P.bx.lt
            go_wp2_with fail
            clear t0 a0 a1 b0 b1 l1 l2
            go_loopw [79, 15] (fun i s wr => ∃ k : Nat, k ≤ q ∧ i = .int .i64 k ∧ s = .bool (s0 && secsEq DD EE k) ∧ Pr wr (fun b => b ≠ G ∧ b ≠ H ∧ b ≠ G2 ∧ b ≠ H2) G H e1 y1 DD ∧ Pr wr (fun b => b ≠ G ∧ b ≠ H ∧ b ≠ G2 ∧ b ≠ H2) G2 H2 e2 y2 EE ∧ Below w.heap.size w wr) (fun i _ _ => q - (intOf i).toNat)
            case atStart => exact ⟨0, Nat.zero_le _, rfl, by simp [secsEq], O, P, hbel⟩
            case round =>
              obtain ⟨k, hk, rfl, rfl, Or, Pr', hb3⟩ := hrel
              clear O P hbel
              by_cases hkq : k < q
              · have HE := hid (secsEq_succ DD EE k)
                obtain ⟨s1, hs1⟩ : ∃ z, (s0 && secsEq DD EE k) = z := ⟨_, rfl⟩
                rw [hs1]
                have HS1 := hid hs1
                clear hs1
                cases s1 with
                | false =>
                  go_wp2_with fail
                  (refine wp_region_ext (by kernel_rfl) (by kernel_rfl) ?_; (repeat (go_big_quiet_step ((fail)))); refine wpQuiet_nil ?_; rintro _ ⟨z, rfl⟩)
                  go_wp2_with fail
                  go_roundw
                  case rel => exact ⟨k + 1, by omega, by go_num, by rw [HE.out, ← Bool.and_assoc, HS1.out]; rfl, Or.keep z.h, Pr'.keep z.h, hb3.trans (z.h.mono hb3.size)⟩
                  case measure => simp [intOf]; omega
                | true =>
                  obtain ⟨b, off, sl, eA, hlt, hc, hrb⟩ := Or.r.s.at (i := k) (by have := HS.out.1; have := Or.r.s.e; omega)
                  obtain ⟨b', off', sl', eA', hlt', hc', hrb'⟩ := Pr'.r.s.at (i := k) (by have := HS.out.2.1; have := Pr'.r.s.e; omega)
                  dsimp only [Sl.v] at hc hc'
                  have c1 := fun z : Ext wr => (z.h.cell (p := ⟨b, off + k, none⟩) hlt).trans hc
                  have c2 := fun z : Ext wr => (z.h.cell (p := ⟨b', off' + k, none⟩) hlt').trans hc'
                  have r1 := fun z : Ext wr => hrb.below z.h
                  have r2 := fun z : Ext wr => hrb'.below z.h
                  have g1 := fun z : Ext wr => (rv2 (Or.bx.keep z.h)).1
                  have g2 := fun z : Ext wr => (rv2 (Pr'.bx.keep z.h)).1
                  rw [eA, HS.out.1] at g1
                  rw [eA', HS.out.2.1] at g2
                  have HR := hid (And.intro r1 r2)
                  clear r1 r2 hc hc' hrb hrb'
                  go_wp2_with fail
                  (refine wp_region_ext (by kernel_rfl) (by kernel_rfl) ?_; (repeat (go_big_quiet_step ((go_at_call 13; exact Ext.calls_same _ (equal_any _ _ _ _ _ _ _ _ _ (HR.out.1 _) (HR.out.2 _)))))); refine wpQuiet_nil ?_; rintro _ ⟨z, rfl⟩)
                  go_wp2_with fail
                  go_roundw
                  case rel => exact ⟨k + 1, by omega, by go_num, by rw [HE.out, ← Bool.and_assoc, HS1.out, Bool.true_and], Or.keep z.h, Pr'.keep z.h, hb3.trans (z.h.mono hb3.size)⟩
                  case measure => simp [intOf]; omega
              · obtain rfl : k = q := by omega
                obtain ⟨s1, hs1⟩ : ∃ z, (s0 && secsEq DD EE k) = z := ⟨_, rfl⟩
                rw [hs1]
                have HS1 := hid hs1
                clear hs1 hkq hk
                go_wp2_with fail
                go_loopw [17, 15] (fun i s wr => ∃ q : Nat, q ≤ DD.W.length ∧ i = .int .i64 q ∧ s = .bool (s1 && wrsEq DD EE q) ∧ Pr wr (fun b => b ≠ G ∧ b ≠ H ∧ b ≠ G2 ∧ b ≠ H2) G H e1 y1 DD ∧ Pr wr (fun b => b ≠ G ∧ b ≠ H ∧ b ≠ G2 ∧ b ≠ H2) G2 H2 e2 y2 EE ∧ Below w.heap.size w wr) (fun i _ _ => DD.W.length - (intOf i).toNat)
                case atStart => exact ⟨0, Nat.zero_le _, rfl, by simp [wrsEq], Or, Pr', hb3⟩
                case round =>
                  obtain ⟨q, hql, rfl, rfl, Os, Ps, hb4⟩ := hrel
                  clear Or Pr' hb3
                  obtain ⟨s2, hs2⟩ : ∃ z, (s1 && wrsEq DD EE q) = z := ⟨_, rfl⟩
                  rw [hs2]
                  have HS2 := hid hs2
                  clear hs2
                  have a1 := (rv2 Os.bx).2
                  have b1 := (rv2 Ps.bx).2
                  have l1 := Os.bx.lt
                  have l2 := Ps.bx.lt
                  rw [HS.out.2.2.1] at a1
                  by_cases hgo : s2 = true ∧ q < DD.W.length
                  · obtain ⟨rfl, hlt⟩ := hgo
                    have HL := hid hlt
                    have hEW : q < EE.W.length := by
                      have h1 := HS2.out
                      have h2 := HS1.out
                      have h3 := HS.out.2.2.2.2
                      simp only [Bool.and_eq_true] at h1
                      rw [h1.1] at h2
                      simp only [Bool.and_eq_true] at h2
                      rw [h2.1] at h3
                      have := of_decide_eq_true h3
                      omega
                    obtain ⟨X, hX⟩ : ∃ X, DD.W.reverse[q]? = some X := ⟨_, List.getElem?_eq_getElem (by rw [List.length_reverse]; exact hlt)⟩
                    obtain ⟨Y, hY⟩ : ∃ Y, EE.W.reverse[q]? = some Y := ⟨_, List.getElem?_eq_getElem (by rw [List.length_reverse]; exact hEW)⟩
                    have HE : Hid ((s1 && wrsEq DD EE (q + 1)) = decide (X = Y)) := by
                      show _ = _
                      rw [wrsEq_succ, ← Bool.and_assoc, HS2.out, Bool.true_and, hX, hY, Bool.eq_iff_iff]
                      simp
                    obtain ⟨b, off, sl, eA, hbl, hc, hd, hrb⟩ := Os.r.w.at hX
                    obtain ⟨b', off', sl', eA', hbl', hc', hd', hrb'⟩ := Ps.r.w.at hY
                    clear hX hY
                    obtain ⟨xa, xl⟩ := X
                    obtain ⟨ya, yl⟩ := Y
                    dsimp only [Sl.v] at hc hd hrb hc' hd' hrb'
                    have c1 := fun z : Ext wr => (z.h.cell (p := ⟨b, off + q * 2, none⟩) hbl).trans hc
                    have c2 := fun z : Ext wr => (z.h.cell (p := ⟨b', off' + q * 2, none⟩) hbl').trans hc'
                    have c3 := fun z : Ext wr => (z.h.cell (p := ⟨b, off + q * 2 + 1, none⟩) hbl).trans hd
                    have c4 := fun z : Ext wr => (z.h.cell (p := ⟨b', off' + q * 2 + 1, none⟩) hbl').trans hd'
                    have r1 := fun z : Ext wr => hrb.below z.h
                    have r2 := fun z : Ext wr => hrb'.below z.h
                    have g1 := fun z : Ext wr => (rv2 (Os.bx.keep z.h)).2
                    have g2 := fun z : Ext wr => (rv2 (Ps.bx.keep z.h)).2
                    rw [eA, HS.out.2.2.1] at g1
                    rw [eA', HS.out.2.2.2.1] at g2
                    have HR := hid (And.intro r1 r2)
                    clear r1 r2 hc hc' hd hd' hrb hrb'
                    by_cases hat : xa = ya
                    · have t1 : ((xa : Int) == (ya : Int)) = true := by rw [hat]; exact beq_self_eq_true _
                      have HT := hid hat
                      clear hat
                      go_wp2_with fail
                      clear a1 b1
                      (refine wp_region_ext (by kernel_rfl) (by kernel_rfl) ?_; (repeat (go_big_quiet_step ((go_at_call 13; exact Ext.calls_same _ (equal_any _ _ _ _ _ _ _ _ _ (HR.out.1 _) (HR.out.2 _)))))); refine wpQuiet_nil ?_; rintro _ ⟨z, rfl⟩)
                      go_wp2_with fail
                      go_roundw
                      case rel => exact ⟨q + 1, by have := HL.out; omega, by go_num, by rw [HE.out, HT.out]; congr 1; rw [Bool.eq_iff_iff]; simp, Os.keep z.h, Ps.keep z.h, hb4.trans (z.h.mono hb4.size)⟩
                      case measure => have := HL.out; simp [intOf]; omega
                    · have t1 : ((xa : Int) == (ya : Int)) = false := by rw [beq_eq_false_iff_ne]; omega
                      have HT := hid hat
                      clear hat
                      go_wp2_with fail
                      clear a1 b1
                      (refine wp_region_ext (by kernel_rfl) (by kernel_rfl) ?_; (repeat (go_big_quiet_step ((fail)))); refine wpQuiet_nil ?_; rintro _ ⟨z, rfl⟩)
                      go_wp2_with fail
                      go_roundw
                      case rel => exact ⟨q + 1, by have := HL.out; omega, by go_num, by rw [HE.out]; congr 1; have := HT.out; simp [this], Os.keep z.h, Ps.keep z.h, hb4.trans (z.h.mono hb4.size)⟩
                      case measure => have := HL.out; simp [intOf]; omega
                  · have hfin : s2 = true ↔ DD.same EE := same_fin DD EE k q hDn hEn s2 (by rw [HS.out.2.2.2.2, HS1.out, HS2.out]) hql (fun h => by
                      by_cases hh : q < DD.W.length
                      · exact absurd ⟨h, hh⟩ hgo
                      · omega)
                    have HF := hid hfin
                    clear hfin
                    have hcase : s2 = false ∨ (s2 = true ∧ ¬ q < DD.W.length) := by
                      cases s2
                      · exact .inl rfl
                      · exact .inr ⟨rfl, fun h => hgo ⟨rfl, h⟩⟩
                    clear hgo
                    obtain ⟨x0', x1', x2', x3', x4'⟩ := Os.k.c5
                    have hbb : Below w.heap.size w wr := hb4
                    rcases hcase with rfl | ⟨rfl, hnq⟩
                    all_goals (
                      go_wp2_with fail
                      have R := new_ok (k + 1) wr (by omega) (by omega)
                      simp only [DV.v, show ((k + 1 : Nat) : Int) = (k : Int) + 1 from rfl, show ((0 : Nat) : Int) = 0 from rfl] at R
                      refine R.mono ?_
                      clear R
                      rintro e v1 ⟨rfl, bb1⟩
                      have O5 := Os.keep bb1
                      have P5 := Ps.keep bb1
                      have B5 := hb4.trans (bb1.mono hb4.size)
                      clear a1 b1 l1 l2 x0' x1' x2' x3' x4' Os Ps hb4 hbb bb1
                      go_wp2_with fail
                      have hP : Blk (v1.alloc (.cells #[.int .i64 (↑k + 1), .pointer none, .pointer none, .pointer none, .int .i64 0] 25)) v1.heap.size 25 [.int .i64 (↑k + 1), .pointer none, .pointer none, .pointer none, .int .i64 0] := Blk.new v1 _ _
                      have hB : Below v1.heap.size v1 (v1.alloc (.cells #[.int .i64 (↑k + 1), .pointer none, .pointer none, .pointer none, .int .i64 0] 25)) := (Below.refl _ _).alloc (Nat.le_refl _) _
                      have hS : (v1.alloc (.cells #[.int .i64 (↑k + 1), .pointer none, .pointer none, .pointer none, .int .i64 0] 25)).heap.size = v1.heap.size + 1 := by simp
                      generalize (v1.alloc (.cells #[.int .i64 (↑k + 1), .pointer none, .pointer none, .pointer none, .int .i64 0] 25)) = v2 at hP hB hS ⊢
                      have O6 := O5.keep hB
                      have P6 := P5.keep hB
                      have B6 := B5.trans (hB.mono B5.size)
                      have K6 := hP
                      clear O5 P5 B5 hB hP
                      refine (awake_any v2).mono ?_
                      rintro e v3 ⟨rfl, bb3⟩
                      have O7 := O6.keep bb3
                      have P7 := P6.keep bb3
                      have B7 := B6.trans (bb3.mono B6.size)
                      have K7 := K6.keep bb3
                      clear O6 P6 B6 K6 bb3
                      obtain ⟨x0', x1', x2', x3', x4'⟩ := O7.k.c5
                      obtain ⟨z0', z1', z2', z3', z4'⟩ := P7.k.c5
                      have gl1 := O7.k.lt
                      have gl2 := P7.k.lt
                      go_wp2_with fail
                      first
                        | have R := dkEqual_any e1 e2 DD EE v3 O7.dk P7.dk true (by simpa using HF.out)
                        | have R := dkEqual_any e1 e2 DD EE v3 O7.dk P7.dk false (by simpa using HF.out)
                      simp only [DV.v] at R
                      refine R.mono ?_
                      clear R
                      rintro e v4 ⟨rfl, bb4⟩
                      have O8 := O7.keep bb4
                      have B8 := B7.trans (bb4.mono B7.size)
                      have K8 := K7.keep bb4
                      clear O7 P7 B7 K7 bb4 x0' x1' x2' x3' x4' z0' z1' z2' z3' z4' gl1 gl2
                      obtain ⟨x0', x1', x2', x3', x4'⟩ := O8.k.c5
                      have gl1 := O8.k.lt
                      go_wp2_with fail
                      have R := dkEqual_any e1 e1 DD DD v4 O8.dk O8.dk true ⟨fun _ => ⟨rfl, rfl, fun _ _ => rfl⟩, fun _ => rfl⟩
                      simp only [DV.v] at R
                      refine R.mono ?_
                      clear R
                      rintro e v5 ⟨rfl, bb5⟩
                      have O9 := O8.keep bb5
                      have B9 := B8.trans (bb5.mono B8.size)
                      have K9 := K8.keep bb5
                      clear O8 B8 K8 bb5 x0' x1' x2' x3' x4' gl1
                      obtain ⟨x0', x1', x2', x3', x4'⟩ := O9.k.c5
                      obtain ⟨z0', z1', z2', z3', z4'⟩ := K9.c5
                      have gl1 := O9.k.lt
                      have gl2 := K9.lt
                      have R := dkEqual_n e1 ⟨k + 1, none, none, none, 0⟩ v5 (by have := O9.dk.n; show e1.n ≠ k + 1; omega)
                      simp only [DV.v, show ((k + 1 : Nat) : Int) = (k : Int) + 1 from rfl, show ((0 : Nat) : Int) = 0 from rfl] at R
                      have HR := hid R
                      clear R
                      go_wp2_with fail
                      refine HR.out.mono ?_
                      rintro e v6 ⟨rfl, bb6⟩
                      have B10 := B9.trans (bb6.mono B9.size)
                      clear x0' x1' x2' x3' x4' z0' z1' z2' z3' z4' gl1 gl2
                      go_wp2_with fail
                      go_ret
                      exact ⟨rfl, B10⟩)
end Go.Proofs.Ythpalmncfcahkaa
