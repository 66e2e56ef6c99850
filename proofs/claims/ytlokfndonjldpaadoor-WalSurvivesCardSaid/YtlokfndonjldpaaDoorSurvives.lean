/- The walk of WalSurvives, every argument. Conditions: the table of remainders is laid; the acts read. -/
import Derived.Test.YtlokfndonjldpaaDoorAwake
import Derived.Test.YtlokfndonjldpaaDoorLawS
import Derived.Test.YtlokfndonjldpaaDoorRefRec
import Derived.Test.YtlokfndonjldpaaDoorIs
import Derived.Deep.QuietTactic
import Derived.BigQuiet
import Derived.Deep.Cut
import Derived.Deep.CutBlock
import Derived.Deep.DeepCutAuto
import Derived.Deep.RegionLaw
set_option linter.unusedSimpArgs false
set_option linter.unusedVariables false
namespace Go.Proofs.YtlokfndonjldpaaDoor
open Go.RowKit

theorem arrAct : ArrT Tryd.prog 34 (⟨0, 0, 0, 0⟩ : Ac).cs := (by kernel_rfl : (Tryd.prog.info? 34).map (fun i => (i.zero, i.size)) = some (some (.agg (⟨0, 0, 0, 0⟩ : Ac).cs.toArray), 4))
theorem actN : (Tryd.prog.info? 34).map (·.size) = some 4 := by kernel_rfl
theorem ac_one (x : Ac) : ∀ v ∈ x.cs, v.oneCell' = true := by
  intro v hv
  simp only [Ac.cs, List.mem_cons, List.not_mem_nil, or_false] at hv
  rcases hv with rfl | rfl | rfl | rfl <;> rfl
theorem recsAt_at : ∀ (f : Nat) (ps : List (List UInt8)) (t : Nat) (p : List UInt8), f < 18446744073709551616 → ps[t]? = some p → (recsAt f ps)[t]? = some ((f + t) % 18446744073709551616, p)
  | f, [], t, p, _, h => by simp at h
  | f, q :: r, 0, p, hf, h => by
    rw [recsAt]
    simp only [List.getElem?_cons_zero, Option.some.injEq] at h ⊢
    rw [h, Nat.add_zero, Nat.mod_eq_of_lt hf]
  | f, q :: r, t + 1, p, hf, h => by
    rw [recsAt, List.getElem?_cons_succ]
    rw [List.getElem?_cons_succ] at h
    rw [recsAt_at _ r t p (Nat.mod_lt _ (by omega)) h]
    congr 2
    omega
theorem own_pre {w : World} {base : Nat} {e : TypeId} {A : Option Addr} {n c j : Nat} {xs : List Value} (h : w.ownsRow base e 1 (.slice A n c) n xs) (hj : j ≤ n) : w.ownsRow base e 1 (.slice A j c) j (xs.take j) := by
  obtain ⟨hl, h | ⟨g, cap, cur, h1, h2, h3, h4, h5, h6, h7⟩⟩ := h
  · obtain ⟨h1, rfl⟩ := h
    cases h1
    obtain rfl : j = 0 := by omega
    exact ⟨by simp, .inl ⟨rfl, rfl⟩⟩
  · cases h1
    refine ⟨by rw [List.length_take, hl]; omega, .inr ⟨g, c, cur, rfl, h2, h3, by omega, h5, h6, ?_⟩⟩
    rw [← h7, List.take_take, Nat.mul_one, Nat.mul_one, Nat.min_eq_left hj]
theorem Sls.take {N : Nat → Prop} {w : World} {ss : List Sl} {ls : List (List UInt8)} (h : Sls N w ss ls) (j : Nat) : Sls N w (ss.take j) (ls.take j) :=
  ⟨by rw [List.length_take, List.length_take, h.1], fun i s l h1 h2 => by
    rw [List.getElem?_take] at h1 h2
    split at h1
    · rename_i hij
      rw [if_pos hij] at h2
      exact h.2 i s l h1 h2
    · cases h1⟩
set_option maxRecDepth 100000 in
set_option maxHeartbeats 4000000 in
theorem survives_walk (n0 : Nat) (A : Option Addr) (n c : Nat) (X : List Ac) (w : World) (hT : Tab w) (hn0 : n0 < 256) (hX : X.length = n) (hr : RL w 4 A n (X.flatMap Ac.cs)) (hok : ∀ x ∈ X, x.ok) (hnc : n ≤ c) (hcm : c ≤ 9223372036854775807) :
    Calls Tryd.prog 7 #[.int .u8 n0, .slice A n c] w fun e w' => e = .returned (.bool true) ∧ Below w.heap.size w w' := by
  have HOK := hid hok
  have HX := hid hX
  have HTb := hid hT
  have HR := hid hr
  clear hok hX hT hr
  by_cases hn : n ≤ 40
  rotate_left
  · have t1 : ((n : Int) > 40) := by omega
    go_enter Tryd.func7, Tryd.ntmps7
    go_wp2_with fail
    refine (awake_any _ HTb.out).mono ?_
    rintro e w1 ⟨rfl, b1⟩
    go_wp2_with fail
    go_ret
    exact ⟨rfl, b1⟩
  · have t1 : ¬ ((n : Int) > 40) := by omega
    go_enter Tryd.func7, Tryd.ntmps7
    go_wp2_with fail
    refine (begin_any n0 w hn0 HTb.out).mono ?_
    have hS0 := Sv.begin_ (2 + n0 % 20) (by omega)
    have hq0 : 2 + n0 % 20 ≤ 21 := by omega
    generalize 2 + n0 % 20 = q at hS0 hq0 ⊢
    generalize created (Dk.new (q + 3)) 2 q = D0 at hS0 ⊢
    generalize hl0 : Lg.first 2 q = l0 at hS0 ⊢
    have he0 : Hid (l0.e = 1) := by rw [← hl0]; exact hid rfl
    clear hl0
    rintro e w4 ⟨d0, rfl, hd4, b4⟩
    simp only [DV.v, Lg.v]
    go_wp2_with (first
      | ((with_reducible refine is_alloc 38 ?_); refine wp_allocB (w := w4) _ arrDisk ?_; intro w5 k5 b5 s5; go_frame)
      | ((with_reducible refine is_alloc 44 ?_); refine wp_allocN (w4.heap.size + 1) s5 _ arrLog ?_; intro w6 k6 b6 s6; go_frame)
      | ((with_reducible refine is_store 38 ?_); refine wp_storeB w4.heap.size _ _ d0.cs (k5.keep (by rw [s5]; exact b6)) diskN rfl (dv_one _) rfl rfl ?_; intro w7 k7 r7; go_frame)
      | ((with_reducible refine is_store 44 ?_); refine wp_storeB (w4.heap.size + 1) _ _ l0.cs (k6.grown r7 (by simp)) logN rfl (lg_one _) rfl rfl ?_; intro w8 k8 r8; go_frame))
    have b56 : Below w4.heap.size w4 w6 := b5.trans ((show Below w5.heap.size w5 w6 by rw [s5]; exact b6).mono b5.size)
    have hd8 := ((hd4.keep b56).kept (Kept.grown r7 (k5.keep (by rw [s5]; exact b6)) notDk)).kept (Kept.grown r8 (k6.grown r7 (by simp)) (by unfold dkT; decide))
    have K0 : Bx w8 w4.heap.size d0 D0 := ⟨k7.grown r8 (by simp), hd8⟩
    have C6 := b4.trans (b56.mono b4.size)
    have C7 := C6.grown r7 C6.size (fun z hz => by cases hz; exact b4.size)
    have C8 := C7.grown r8 C7.size (fun z hz => by cases hz; have := b4.size; omega)
    have hG : w.heap.size ≤ w4.heap.size := b4.size
    clear b4 b5 b6 b56 s5 s6 k5 k6 k7 r7 r8 hd4 hd8 C6 C7
    generalize w4.heap.size = G7 at *
    obtain ⟨G8, hG8⟩ : ∃ z, G7 + 1 = z := ⟨_, rfl⟩
    rw [hG8] at k8 ⊢
    have hG78 : w.heap.size ≤ G8 ∧ ¬ G7 = G8 ∧ ¬ G8 = G7 := ⟨by omega, by omega, by omega⟩
    clear hG8 w4 t1
    obtain ⟨HL, hHL⟩ : ∃ z, z = w8.heap.size := ⟨_, rfl⟩
    have hGL : w.heap.size ≤ HL ∧ G7 < HL ∧ G8 < HL := ⟨by have := C8.size; omega, by have := K0.k.lt; omega, by have := k8.lt; omega⟩
    go_loopw [9, 10, 11, 12] (fun hv fi sy i wr => ∃ (k : Nat) (d : DV) (D : Dk) (l : Lg) (first sn s : Nat) (rs : List (Nat × List UInt8)) (ws : List Sl), k ≤ n ∧ i = .int .i64 k ∧ fi = .int .u64 first ∧ sy = .int .i64 sn ∧ sn ≤ s ∧ rs.length ≤ k ∧ wr.ownsRow HL 25 1 hv rs.length (ws.map Sl.v) ∧ Sls (fun b => HL ≤ b ∧ hv.ownBlock ≠ some b) wr ws (rs.map (·.2)) ∧ Bx wr G7 d D ∧ Blk wr G8 44 l.cs ∧ Hid (∃ B m G, Sv k q D l first rs B m s G) ∧ Below w.heap.size w wr ∧ HL ≤ wr.heap.size) (fun _ _ _ i _ => n - (intOf i).toNat)
    case atStart => exact ⟨0, d0, D0, l0, 1, 0, 0, [], [], Nat.zero_le _, rfl, rfl, rfl, Nat.le_refl _, Nat.le_refl _, World.ownsRow_nil _ _ _ _, Sls.nil, K0, k8, hid ⟨_, _, _, hS0⟩, C8, by omega⟩
    case round =>
      obtain ⟨k, d, D, l, first, sn, s, rs, ws, hk, rfl, rfl, rfl, hsn, hrk, hown, hsl, kd, kl, HS, hbel, hHw⟩ := hrel
      clear K0 k8 hS0 C8 he0 hHL
      by_cases hlt : k < n
      · obtain ⟨b, off, x, rfl, hbb, hx, hcell⟩ := (HR.out.below hbel).el (f := Ac.cs) (fun _ => rfl) hlt (by omega)
        have C0 := hcell 0 _ rfl
        have C1 := hcell 1 _ rfl
        have C2 := hcell 2 _ rfl
        have C3 := hcell 3 _ rfl
        rw [Nat.add_zero] at C0
        have hxok := HOK.out x (List.mem_of_getElem? hx)
        clear hcell hx
        have HP : Hid (∀ w', Calls Tryd.prog 12 #[x.val] w' fun e w'' => ∃ g, e = .returned (.slice (some ⟨g, 0, none⟩) x.pay.length x.pay.length) ∧ w'.heap.size ≤ g ∧ RB w'' (some ⟨g, 0, none⟩) x.pay.length x.pay ∧ Below w'.heap.size w' w'') := hid fun w' => (payload_any x w' hxok).mono fun e w'' ⟨g, h1, h2, h3, h4⟩ => ⟨g, h1, h2, h3.cells rfl, h4⟩
        have hpl : x.pay.length < 400 := by
          unfold Ac.pay
          rw [payB_len]
          omega
        have hch := hxok.c
        obtain ⟨md, hmd⟩ : ∃ z, x.kd % 7 = z := ⟨_, rfl⟩
        have em1 : (x.kd : Int).tmod 7 = (md : Int) := by rw [Int.tmod_eq_emod_of_nonneg (by omega)]; omega
        have em2 : (x.kd : Int) % 7 = (md : Int) := by omega
        have HMD := hid hmd
        clear hxok hmd
        generalize hpay : x.pay = pay at *
        clear hpay
        obtain ⟨pl, hpl2⟩ : ∃ z, pay.length = z := ⟨_, rfl⟩
        have HPL := hid hpl2
        rw [hpl2] at HP hpl
        clear hpl2
        have t2 : (k : Int) < (n : Int) := by omega
        go_upto_region 28 with (first
          | ((with_reducible refine is_alloc 34 ?_); refine wp_allocB (w := wr) _ arrAct ?_; intro w5 k5 b5 s5; go_frame)
          | ((with_reducible refine is_store 34 ?_); refine wp_storeB wr.heap.size _ _ x.cs k5 actN rfl (ac_one _) rfl rfl ?_; intro w6 k6 r6; go_frame; obtain ⟨a0, a1, a2, a3⟩ := k6.c4; have l6 := k6.lt))
        have ba : Below wr.heap.size wr w6 := b5.grown r6 b5.size (fun z hz => by cases hz; exact Nat.le_refl _)
        replace hown := own_below hown ba
        replace hsl := (hsl.lt.keep ba).mono (N' := fun b => (HL ≤ b ∧ u9.ownBlock ≠ some b) ∧ b < wr.heap.size) (fun b hb => hb)
        replace kd := kd.keep ba
        replace kl := kl.keep ba
        replace hbel := hbel.trans (ba.mono hbel.size)
        have h6 := ba.size
        clear a0 a1 a2 a3 l6 b5 s5 k5 r6 ba C0 C1 C2 C3 hbb
        obtain ⟨b0, e0⟩ : ∃ z, ((md : Int) == 0) = z := ⟨_, rfl⟩
        obtain ⟨b1, e1⟩ : ∃ z, ((md : Int) == 1) = z := ⟨_, rfl⟩
        obtain ⟨b2, e2⟩ : ∃ z, ((md : Int) == 2) = z := ⟨_, rfl⟩
        have HB : Hid (decide (md ≤ 2) = (b0 || b1 || b2)) := by
          rw [← e0, ← e1, ← e2]
          show decide (md ≤ 2) = _
          rw [Bool.eq_iff_iff]
          simp only [decide_eq_true_eq, Bool.or_eq_true, beq_iff_eq]
          omega
        go_upto_if 133 with fail
        go_cut [133] (fun v wx => v = .bool (decide (md ≤ 2)) ∧ wx = w6)
        case first =>
          cases b0 with
          | true =>
            go_wp2_with fail
            go_meet
            case rel => exact ⟨by rw [HB.out]; rfl, rfl⟩
          | false =>
            cases b1 with
            | true =>
              go_wp2_with fail
              go_meet
              case rel => exact ⟨by rw [HB.out]; rfl, rfl⟩
            | false =>
              go_wp2_with fail
              go_meet
              case rel => exact ⟨by rw [HB.out]; rfl, rfl⟩
        case rest =>
          obtain ⟨rfl, rfl⟩ := hcut
          by_cases happ : md ≤ 2
          · have e3 : decide (md ≤ 2) = true := by simpa using happ
            rw [e3]
            clear e3
            generalize wr.heap.size = bA at *
            obtain ⟨B0, m0, G0, hS⟩ := HS.out
            have hlok := hS.lok (by omega)
            have hinn := hS.inn
            have hwl := hS.wl
            have hG7 := kd.k.lt
            have hG8 := kl.lt
            have hbA := k6.lt
            have hcw := hbel.size
            go_wp2_with fail
            by_cases hfit : cnt pl ≤ l.left
            · have hS2 := hS.append (by omega) (p := pay) (by rw [HPL.out]; omega) (by rw [HPL.out]; exact hfit)
              rw [HPL.out] at hS2
              have HA : Hid (∀ w' A c, Below wc.heap.size wc w' → RB w' A pl pay → Calls Tryd.prog 21 #[l.v, d.v, .slice A pl c] w' fun e w'' => ∃ d' : DV, e = .returned (.tuple #[d'.v, (l.app pl).v, .int .i64 0]) ∧ DkV w'' d' (putSecs D l.at_ (recSecs (tagB l.e l.g l.nx) pay)) ∧ Below w'.heap.size w' w'') :=
                hid fun w' A c hb hp => append_good l d D A pl c pay w' (kd.d.keep hb) (HTb.out.keep (hbel.trans (hb.mono hbel.size))) hlok hp (by omega) hfit hinn (by omega)
              generalize putSecs D l.at_ (recSecs (tagB l.e l.g l.nx) pay) = DN at *
              generalize l.app pl = l2 at *
              have HS2 := hid hS2
              clear hS hS2 hlok hinn hwl hfit HS
              refine wp_region_headF 182 11 [138, 139, 140, 141, 142, 137, 143, 144, 145, 14, 15] [7, 8] ((fun kq => ([fun u w' => u = l.v, fun u w' => u = d.v, fun u w' => u = x.val, fun u w' => ∃ (gp : Nat), u = .slice (some ⟨gp, 0, none⟩) pl pl ∧ RB w' (some ⟨gp, 0, none⟩) pl pay, fun u w' => ∃ (dx : DV), u = .tuple #[dx.v, l2.v, .int .i64 0] ∧ DkV w' dx DN, fun u w' => ∃ (dx : DV), u = .tuple #[dx.v, l2.v, .int .i64 0] ∧ DkV w' dx DN, fun u w' => ∃ (dx : DV), u = dx.v ∧ DkV w' dx DN, fun u w' => u = l2.v, fun u w' => u = .int .i64 0, fun u w' => ∃ (b14 : Nat), u = .pointer (some ⟨b14, 0, none⟩) ∧ wc.heap.size ≤ b14 ∧ Blk w' b14 38 DV.zero.cs, fun u w' => ∃ (b15 : Nat), u = .pointer (some ⟨b15, 0, none⟩) ∧ wc.heap.size ≤ b15 ∧ Blk w' b15 44 Lg.zero.cs] : List (Value → World → Prop)).getD kq (fun _ _ => True))) (by kernel_rfl) rfl (by kernel_rfl) ?grow ?step ?tail
              case step =>
                simp only [List.take_succ_cons, List.take_zero]
                refine HSteps.cons ?_ ?_
                · intro f w' hb hU
                  obtain ⟨x0', x1', x2', x3', x4', x5'⟩ := (kl.keep hb).c6
                  simp only [putAll, List.foldl_cons, List.foldl_nil]
                  go_frame
                  go_wp2_with fail
                  exact ⟨rfl, _, rfl, Below.refl _ _, rfl⟩
                refine HSteps.cons ?_ ?_
                · intro f w' hb hU
                  obtain ⟨x0', x1', x2', x3', x4'⟩ := (kd.k.keep hb).c5
                  simp only [putAll, List.foldl_cons, List.foldl_nil]
                  go_frame
                  go_wp2_with fail
                  exact ⟨rfl, _, rfl, Below.refl _ _, rfl⟩
                refine HSteps.cons ?_ ?_
                · intro f w' hb hU
                  obtain ⟨x0', x1', x2', x3'⟩ := (k6.keep hb).c4
                  simp only [putAll, List.foldl_cons, List.foldl_nil]
                  go_frame
                  go_wp2_with fail
                  exact ⟨rfl, _, rfl, Below.refl _ _, rfl⟩
                refine HSteps.cons ?_ ?_
                · intro f w' hb hU
                  obtain u2 : f 140 = x.val := hU.get ⟨2, .data⟩ (by simp) rfl
                  have R := HP.out w'
                  simp only [putAll, List.foldl_cons, List.foldl_nil]
                  go_frame
                  try simp only [u2]
                  go_wp2_with fail
                  refine (R).mono ?_
                  rintro e w3 ⟨gp, rfl, _, hgp, b3⟩
                  go_wp2_with fail
                  exact ⟨rfl, _, rfl, b3, gp, rfl, hgp⟩
                refine HSteps.cons ?_ ?_
                · intro f w' hb hU
                  obtain u0 : f 138 = l.v := hU.get ⟨0, .data⟩ (by simp) rfl
                  obtain u1 : f 139 = d.v := hU.get ⟨1, .data⟩ (by simp) rfl
                  obtain ⟨gp, u3, v3_0⟩ : ∃ (gp : Nat), f 141 = .slice (some ⟨gp, 0, none⟩) pl pl ∧ RB w' (some ⟨gp, 0, none⟩) pl pay := hU.get ⟨3, .data⟩ (by simp) rfl
                  have R := HA.out w' (some ⟨gp, 0, none⟩) pl hb v3_0
                  simp only [putAll, List.foldl_cons, List.foldl_nil]
                  go_frame
                  try simp only [u0, u1, u3]
                  go_wp2_with fail
                  refine (R).mono ?_
                  rintro e w3 ⟨dx, rfl, hdx, b3⟩
                  go_wp2_with fail
                  exact ⟨rfl, _, rfl, b3, dx, rfl, hdx⟩
                refine HSteps.cons ?_ ?_
                · intro f w' hb hU
                  obtain ⟨dx, u4, v4_0⟩ : ∃ (dx : DV), f 142 = .tuple #[dx.v, l2.v, .int .i64 0] ∧ DkV w' dx DN := hU.get ⟨4, .data⟩ (by simp) rfl
                  simp only [putAll, List.foldl_cons, List.foldl_nil]
                  go_frame
                  try simp only [u4]
                  go_wp2_with fail
                  exact ⟨rfl, _, rfl, Below.refl _ _, dx, rfl, v4_0⟩
                refine HSteps.cons ?_ ?_
                · intro f w' hb hU
                  obtain ⟨dx, u5, v5_0⟩ : ∃ (dx : DV), f 137 = .tuple #[dx.v, l2.v, .int .i64 0] ∧ DkV w' dx DN := hU.get ⟨5, .data⟩ (by simp) rfl
                  simp only [putAll, List.foldl_cons, List.foldl_nil]
                  go_frame
                  try simp only [u5]
                  go_wp2_with fail
                  exact ⟨rfl, _, rfl, Below.refl _ _, dx, rfl, v5_0⟩
                refine HSteps.cons ?_ ?_
                · intro f w' hb hU
                  obtain ⟨dx, u5, v5_0⟩ : ∃ (dx : DV), f 137 = .tuple #[dx.v, l2.v, .int .i64 0] ∧ DkV w' dx DN := hU.get ⟨5, .data⟩ (by simp) rfl
                  simp only [putAll, List.foldl_cons, List.foldl_nil]
                  go_frame
                  try simp only [u5]
                  go_wp2_with fail
                  exact ⟨rfl, _, rfl, Below.refl _ _, rfl⟩
                refine HSteps.cons ?_ ?_
                · intro f w' hb hU
                  obtain ⟨dx, u5, v5_0⟩ : ∃ (dx : DV), f 137 = .tuple #[dx.v, l2.v, .int .i64 0] ∧ DkV w' dx DN := hU.get ⟨5, .data⟩ (by simp) rfl
                  simp only [putAll, List.foldl_cons, List.foldl_nil]
                  go_frame
                  try simp only [u5]
                  go_wp2_with fail
                  exact ⟨rfl, _, rfl, Below.refl _ _, rfl⟩
                refine HSteps.cons ?_ ?_
                · intro f w' hb hU
                  have hP : Blk _ w'.heap.size 38 DV.zero.cs := Blk.new w' _ _
                  have hb3 : Below w'.heap.size w' _ := (Below.refl _ _).alloc (Nat.le_refl _) (.cells (DV.zero.cs).toArray 38)
                  simp only [putAll, List.foldl_cons, List.foldl_nil]
                  go_frame
                  go_wp2_with fail
                  exact ⟨rfl, _, rfl, hb3, _, rfl, hb.size, hP⟩
                refine HSteps.cons ?_ ?_
                · intro f w' hb hU
                  have hP : Blk _ w'.heap.size 44 Lg.zero.cs := Blk.new w' _ _
                  have hb3 : Below w'.heap.size w' _ := (Below.refl _ _).alloc (Nat.le_refl _) (.cells (Lg.zero.cs).toArray 44)
                  simp only [putAll, List.foldl_cons, List.foldl_nil]
                  go_frame
                  go_wp2_with fail
                  exact ⟨rfl, _, rfl, hb3, _, rfl, hb.size, hP⟩
                exact HSteps.nil
              case grow =>
                intro kq u wa wb hb hu
                rcases kq with _ | _ | _ | _ | _ | _ | _ | _ | _ | _ | _ | kq
                · exact hu
                · exact hu
                · exact hu
                · obtain ⟨gp, ue, uf0⟩ := hu
                  exact ⟨gp, ue, uf0.below hb⟩
                · obtain ⟨dx, ue, uf0⟩ := hu
                  exact ⟨dx, ue, uf0.keep hb⟩
                · obtain ⟨dx, ue, uf0⟩ := hu
                  exact ⟨dx, ue, uf0.keep hb⟩
                · obtain ⟨dx, ue, uf0⟩ := hu
                  exact ⟨dx, ue, uf0.keep hb⟩
                · exact hu
                · exact hu
                · obtain ⟨b14, ue, uf0, uf1⟩ := hu
                  exact ⟨b14, ue, uf0, uf1.keep hb⟩
                · obtain ⟨b15, ue, uf0, uf1⟩ := hu
                  exact ⟨b15, ue, uf0, uf1.keep hb⟩
                · trivial
              case tail =>
                intro f w7 hb7 hU
                obtain ⟨dx, u6, v6_0⟩ : ∃ (dx : DV), f 143 = dx.v ∧ DkV w7 dx DN := hU.get 6 (by decide)
                obtain u7 : f 144 = l2.v := hU.get 7 (by decide)
                obtain u8 : f 145 = .int .i64 0 := hU.get 8 (by decide)
                obtain ⟨b14, u9, v9_0, v9_1⟩ : ∃ (b14 : Nat), f 14 = .pointer (some ⟨b14, 0, none⟩) ∧ wc.heap.size ≤ b14 ∧ Blk w7 b14 38 DV.zero.cs := hU.get 9 (by decide)
                obtain ⟨b15, u10, v10_0, v10_1⟩ : ∃ (b15 : Nat), f 15 = .pointer (some ⟨b15, 0, none⟩) ∧ wc.heap.size ≤ b15 ∧ Blk w7 b15 44 Lg.zero.cs := hU.get 10 (by decide)
                simp only [List.drop_succ_cons, List.drop_zero, putAll, List.foldl_cons, List.foldl_nil]
                go_frame
                simp only [u6, u7, u8, u9, u10]
                clear u6 u7 u8 u9 u10
                clear hU
                have hown0 := fun g hg => hown.lt g hg
                replace kd := kd.keep hb7
                replace kl := kl.keep hb7
                replace k6 := k6.keep hb7
                replace hown := own_below hown hb7
                replace hsl := hsl.keep hb7
                replace hbel := hbel.trans (hb7.mono hbel.size)
                have hs7 := hb7.size
                have hne : ¬ b14 = b15 := Blk.ne v9_1 v10_1 (by decide)
                clear hb7 HA
                go_wp2_with (first
                  | ((with_reducible refine is_store 38 ?_); refine wp_storeB b14 _ _ dx.cs v9_1 diskN rfl (dv_one _) rfl rfl ?_; intro w8 k8 r8; go_frame)
                  | ((with_reducible refine is_store 44 ?_); refine wp_storeB b15 _ _ l2.cs (v10_1.grown r8 (by simpa using hne)) logN rfl (lg_one _) rfl rfl ?_; intro w9 k9 r9; go_frame))
                refine noPanic_ok ?_
                have n7 : ¬ G7 = b14 ∧ ¬ G7 = b15 ∧ ¬ G8 = b14 ∧ ¬ G8 = b15 ∧ ¬ bA = G7 ∧ ¬ bA = G8 := ⟨by omega, by omega, by omega, by omega, by omega, by omega⟩
                have kl9 := (kl.grown r8 (by simp; omega)).grown r9 (by simp; omega)
                have kd9 := (kd.k.grown r8 (by simp; omega)).grown r9 (by simp; omega)
                have kx9 := (k6.grown r8 (by simp; omega)).grown r9 (by simp; omega)
                have k89 := k8.grown r9 (by simp; omega)
                have hd9 := (v6_0.kept (Kept.grown r8 v9_1 notDk)).kept (Kept.grown r9 (v10_1.grown r8 (by simpa using hne)) (by unfold dkT; decide))
                have own9 := (hown.kept r8 (.inr (fun hq => by have := (hown0 _ hq).2; omega))).kept r9 (.inr (fun hq => by have := (hown0 _ hq).2; omega))
                have sl9 := (hsl.grown r8 (fun g hg hN => by cases hg; have := hN.2; omega)).grown r9 (fun g hg hN => by cases hg; have := hN.2; omega)
                have C8 := hbel.grown r8 hbel.size (fun z hz => by cases hz; omega)
                have C9 := C8.grown r9 C8.size (fun z hz => by cases hz; omega)
                have m7 := kd9.lt
                have m8 := kl9.lt
                have m13 := k89.lt
                have m14 := k9.lt
                have hs9 : wc.heap.size ≤ w9.heap.size := by have := r8.size; have := r9.size; omega
                clear kd kl k6 hbel r8 r9 k8 v9_1 v10_1 v9_0 v10_0 v6_0 C8 hG7 hG8 hown hsl hown0
                go_wp2_with fail
                obtain ⟨x0, x1, x2, x3, x4⟩ := k89.c5
                obtain ⟨z0, z1, z2, z3, z4, z5⟩ := k9.c6
                try dsimp only at z0 z1 z2 z3 z4 z5
                obtain ⟨y0, y1, y2, y3, y4⟩ := kd9.c5
                have f7 := kd9.fz
                obtain ⟨s7, g7⟩ := set5 kd9 rfl (.int .i64 dx.n) (.pointer dx.s) (.pointer dx.c) (.pointer dx.l) (.int .i64 dx.m)
                have kBs := k9.grown g7 (by simp; omega)
                have kls := kl9.grown g7 (by simp; omega)
                have f8 := kls.fz
                obtain ⟨b0, b1, b2, b3, b4, b5⟩ := kBs.c6
                try dsimp only at b0 b1 b2 b3 b4 b5
                obtain ⟨c0, c1, c2, c3, c4, c5⟩ := kls.c6
                try dsimp only at c0 c1 c2 c3 c4 c5
                go_region
                obtain ⟨s8, g8⟩ := set6 kls rfl (.int .i64 l2.from_) (.int .i64 l2.size) (.int .u64 l2.e) (.int .u64 l2.g) (.int .u64 l2.nx) (.int .i64 l2.at_)
                have hd10 := hd9.kept (Kept.grown g7 kd9 notDk)
                have hd11 := hd10.kept (Kept.grown g8 kls (by unfold dkT; decide))
                have C10 := C9.grown g7 C9.size (fun q hq => by cases hq; omega)
                have C11 := C10.grown g8 C10.size (fun q hq => by cases hq; omega)
                have kx12 := (kx9.grown g7 (by simp; omega)).grown g8 (by simp; omega)
                have own11 := (own9.kept g7 (.inr (fun hq => by have := (own9.lt _ hq).1; omega))).kept g8 (.inr (fun hq => by have := (own9.lt _ hq).1; omega))
                have sl11 := (sl9.grown g7 (fun g hg hN => by cases hg; have := hN.1.1; omega)).grown g8 (fun g hg hN => by cases hg; have := hN.1.1; omega)
                have hz := Nat.le_trans g7.size g8.size
                clear own9 sl9
                have s7' := s7.grown g8 (by simp; omega)
                clear x0 x1 x2 x3 x4 z0 z1 z2 z3 z4 z5 y0 y1 y2 y3 y4 b0 b1 b2 b3 b4 b5 c0 c1 c2 c3 c4 c5 f7 f8 s7 kBs kls hd9 hd10 C9 C10 g7 g8 kd9 kl9 k89 k9
                generalize World.setCell (World.setCell _ _ _) _ _ = w11 at kx12 own11 sl11 hz s7' s8 hd11 C11 ⊢
                have Kd : Bx w11.drew G7 dx _ := ⟨s7', hd11.keep (Below.refl _ _).drew⟩
                have Kl : Blk w11.drew G8 44 l2.cs := s8
                replace kx12 : Blk w11.drew _ _ _ := kx12
                replace own11 := own_below own11 (Below.refl _ _).drew
                replace sl11 := sl11.keep (Below.refl _ _).drew
                replace hz := (show _ ≤ w11.drew.heap.size from hz)
                have hbel : Below w.heap.size w w11.drew := C11.drew
                clear s7' s8 hd11 C11
                generalize w11.drew = w12 at *
                obtain ⟨a0, a1, a2, a3⟩ := kx12.c4
                have l6 := kx12.lt
                go_wp2_with fail
                refine (HP.out _).mono ?_
                rintro e w13 ⟨gp, rfl, hgp, hrp, b13⟩
                have hs12 := hbel.size
                have hwx : wc.heap.size ≤ w12.heap.size := Nat.le_trans hs9 hz
                have ow := fun g hg => own11.lt g hg
                replace own11 := own_below own11 b13
                replace sl11 := sl11.keep b13
                replace Kd := Kd.keep b13
                replace Kl := Kl.keep b13
                replace hbel := hbel.trans (b13.mono hbel.size)
                have hs13 := b13.size
                clear a0 a1 a2 a3 l6 kx12 b13
                go_wp2_with (at_builtin; refine wp_appN rfl _ _ 78 rfl HL 25 _ 1 24 slT.el u9 rs.length (ws.map Sl.v) (own11.alloc _) rfl _ 1 1 [.slice (some ⟨gp, 0, none⟩) pl pl] (RL.new w13 _ _ _ 1 1 rfl) rfl (by intro v hv; rw [List.mem_singleton] at hv; subst hv; rfl) (by unfold maxLen; omega) (by omega) (by simp; omega) ?_; intro v14 w14 hown14 r14 a14; go_frame)
                have ba : Below w13.heap.size w13 (w13.alloc (.cells #[.slice (some ⟨gp, 0, none⟩) pl pl] 25)) := (Below.refl _ _).alloc (Nat.le_refl _) _
                have oz := fun g hg => (own11.lt g hg).1
                have Kd14 : Bx w14 G7 dx DN := ⟨(Kd.k.keep ba).grown r14 (fun hq => by have := oz _ hq; omega), (Kd.d.keep ba).kept (Kept.own (own_below own11 ba) r14 (by unfold dkT; decide))⟩
                have Kl14 := (Kl.keep ba).grown r14 (fun hq => by have := oz _ hq; omega)
                have sa : Sls (fun b => HL ≤ b ∧ u9.ownBlock ≠ some b) (w13.alloc (.cells #[.slice (some ⟨gp, 0, none⟩) pl pl] 25)) ws (rs.map (·.2)) := (sl11.mono (fun b hb => hb.1)).keep ba
                have sb : SlR (fun b => HL ≤ b ∧ u9.ownBlock ≠ some b) (w13.alloc (.cells #[.slice (some ⟨gp, 0, none⟩) pl pl] 25)) ⟨some ⟨gp, 0, none⟩, pl, pl⟩ pay := ⟨⟨RB.below hrp ba, fun b o hA _ => by cases hA; exact ⟨by omega, fun hq => absurd (ow _ hq).2 (by omega)⟩⟩, Nat.le_refl _, by show pl ≤ _; omega⟩
                have sl14 := Sls.app (N := fun b => HL ≤ b) sa sb r14 a14
                have hb14 := (hbel.trans (ba.mono hbel.size)).grown r14 (by simp; omega) (fun g hg => by have := oz g hg; omega)
                have hH14 : HL ≤ w14.heap.size := by have := r14.size; have := ba.size; omega
                have e14 : ws.map Sl.v ++ [.slice (some ⟨gp, 0, none⟩) pl pl] = (ws ++ [(⟨some ⟨gp, 0, none⟩, pl, pl⟩ : Sl)]).map Sl.v := by rw [List.map_append]; rfl
                have e15 : rs.map (·.2) ++ [pay] = (rs ++ [(l.g, pay)]).map (·.2) := by rw [List.map_append]; rfl
                have e16 : rs.length + 1 = (rs ++ [(l.g, pay)]).length := by rw [List.length_append]; rfl
                rw [e14, e16] at hown14
                rw [e15] at sl14
                clear sa sb ba oz ow Kd Kl sl11 own11 hrp r14 a14 hbel
                go_wp2_with fail
                go_roundw
                case measure => simp [intOf]; omega
                case rel => exact ⟨k + 1, dx, DN, l2, first, sn, s, rs ++ [(l.g, pay)], ws ++ [⟨some ⟨gp, 0, none⟩, pl, pl⟩], by omega, by go_num, rfl, rfl, hsn, by rw [List.length_append]; simp; omega, hown14, sl14, Kd14, Kl14, hid ⟨_, _, _, HS2.out⟩, hb14, hH14⟩
            · have HA : Hid (∀ w' A c, Calls Tryd.prog 21 #[l.v, d.v, .slice A pl c] w' fun e w'' => e = .returned (.tuple #[DV.zero.v, Lg.zero.v, .int .i64 11]) ∧ Below w'.heap.size w' w'') :=
                hid fun w' A c => append_full l d A pl c w' hlok (by omega) (by omega)
              clear hS hlok hinn hwl hfit
              refine wp_region_headF 182 11 [138, 139, 140, 141, 142, 137, 143, 144, 145, 14, 15] [7, 8] ((fun kq => ([fun u w' => u = l.v, fun u w' => u = d.v, fun u w' => u = x.val, fun u w' => ∃ (gp : Nat), u = .slice (some ⟨gp, 0, none⟩) pl pl ∧ RB w' (some ⟨gp, 0, none⟩) pl pay, fun u w' => u = .tuple #[DV.zero.v, Lg.zero.v, .int .i64 11], fun u w' => u = .tuple #[DV.zero.v, Lg.zero.v, .int .i64 11], fun u w' => u = DV.zero.v, fun u w' => u = Lg.zero.v, fun u w' => u = .int .i64 11, fun u w' => ∃ (b14 : Nat), u = .pointer (some ⟨b14, 0, none⟩) ∧ wc.heap.size ≤ b14 ∧ Blk w' b14 38 DV.zero.cs, fun u w' => ∃ (b15 : Nat), u = .pointer (some ⟨b15, 0, none⟩) ∧ wc.heap.size ≤ b15 ∧ Blk w' b15 44 Lg.zero.cs] : List (Value → World → Prop)).getD kq (fun _ _ => True))) (by kernel_rfl) rfl (by kernel_rfl) ?grow ?step ?tail
              case step =>
                simp only [List.take_succ_cons, List.take_zero]
                refine HSteps.cons ?_ ?_
                · intro f w' hb hU
                  obtain ⟨x0', x1', x2', x3', x4', x5'⟩ := (kl.keep hb).c6
                  simp only [putAll, List.foldl_cons, List.foldl_nil]
                  go_frame
                  go_wp2_with fail
                  exact ⟨rfl, _, rfl, Below.refl _ _, rfl⟩
                refine HSteps.cons ?_ ?_
                · intro f w' hb hU
                  obtain ⟨x0', x1', x2', x3', x4'⟩ := (kd.k.keep hb).c5
                  simp only [putAll, List.foldl_cons, List.foldl_nil]
                  go_frame
                  go_wp2_with fail
                  exact ⟨rfl, _, rfl, Below.refl _ _, rfl⟩
                refine HSteps.cons ?_ ?_
                · intro f w' hb hU
                  obtain ⟨x0', x1', x2', x3'⟩ := (k6.keep hb).c4
                  simp only [putAll, List.foldl_cons, List.foldl_nil]
                  go_frame
                  go_wp2_with fail
                  exact ⟨rfl, _, rfl, Below.refl _ _, rfl⟩
                refine HSteps.cons ?_ ?_
                · intro f w' hb hU
                  obtain u2 : f 140 = x.val := hU.get ⟨2, .data⟩ (by simp) rfl
                  have R := HP.out w'
                  simp only [putAll, List.foldl_cons, List.foldl_nil]
                  go_frame
                  try simp only [u2]
                  go_wp2_with fail
                  refine (R).mono ?_
                  rintro e w3 ⟨gp, rfl, _, hgp, b3⟩
                  go_wp2_with fail
                  exact ⟨rfl, _, rfl, b3, gp, rfl, hgp⟩
                refine HSteps.cons ?_ ?_
                · intro f w' hb hU
                  obtain u0 : f 138 = l.v := hU.get ⟨0, .data⟩ (by simp) rfl
                  obtain u1 : f 139 = d.v := hU.get ⟨1, .data⟩ (by simp) rfl
                  obtain ⟨gp, u3, v3_0⟩ : ∃ (gp : Nat), f 141 = .slice (some ⟨gp, 0, none⟩) pl pl ∧ RB w' (some ⟨gp, 0, none⟩) pl pay := hU.get ⟨3, .data⟩ (by simp) rfl
                  have R := HA.out w' (some ⟨gp, 0, none⟩) pl
                  simp only [putAll, List.foldl_cons, List.foldl_nil]
                  go_frame
                  try simp only [u0, u1, u3]
                  go_wp2_with fail
                  refine (R).mono ?_
                  rintro e w3 ⟨rfl, b3⟩
                  go_wp2_with fail
                  exact ⟨rfl, _, rfl, b3, rfl⟩
                refine HSteps.cons ?_ ?_
                · intro f w' hb hU
                  obtain u4 : f 142 = .tuple #[DV.zero.v, Lg.zero.v, .int .i64 11] := hU.get ⟨4, .data⟩ (by simp) rfl
                  simp only [putAll, List.foldl_cons, List.foldl_nil]
                  go_frame
                  try simp only [u4]
                  go_wp2_with fail
                  exact ⟨rfl, _, rfl, Below.refl _ _, rfl⟩
                refine HSteps.cons ?_ ?_
                · intro f w' hb hU
                  obtain u5 : f 137 = .tuple #[DV.zero.v, Lg.zero.v, .int .i64 11] := hU.get ⟨5, .data⟩ (by simp) rfl
                  simp only [putAll, List.foldl_cons, List.foldl_nil]
                  go_frame
                  try simp only [u5]
                  go_wp2_with fail
                  exact ⟨rfl, _, rfl, Below.refl _ _, rfl⟩
                refine HSteps.cons ?_ ?_
                · intro f w' hb hU
                  obtain u5 : f 137 = .tuple #[DV.zero.v, Lg.zero.v, .int .i64 11] := hU.get ⟨5, .data⟩ (by simp) rfl
                  simp only [putAll, List.foldl_cons, List.foldl_nil]
                  go_frame
                  try simp only [u5]
                  go_wp2_with fail
                  exact ⟨rfl, _, rfl, Below.refl _ _, rfl⟩
                refine HSteps.cons ?_ ?_
                · intro f w' hb hU
                  obtain u5 : f 137 = .tuple #[DV.zero.v, Lg.zero.v, .int .i64 11] := hU.get ⟨5, .data⟩ (by simp) rfl
                  simp only [putAll, List.foldl_cons, List.foldl_nil]
                  go_frame
                  try simp only [u5]
                  go_wp2_with fail
                  exact ⟨rfl, _, rfl, Below.refl _ _, rfl⟩
                refine HSteps.cons ?_ ?_
                · intro f w' hb hU
                  have hP : Blk _ w'.heap.size 38 DV.zero.cs := Blk.new w' _ _
                  have hb3 : Below w'.heap.size w' _ := (Below.refl _ _).alloc (Nat.le_refl _) (.cells (DV.zero.cs).toArray 38)
                  simp only [putAll, List.foldl_cons, List.foldl_nil]
                  go_frame
                  go_wp2_with fail
                  exact ⟨rfl, _, rfl, hb3, _, rfl, hb.size, hP⟩
                refine HSteps.cons ?_ ?_
                · intro f w' hb hU
                  have hP : Blk _ w'.heap.size 44 Lg.zero.cs := Blk.new w' _ _
                  have hb3 : Below w'.heap.size w' _ := (Below.refl _ _).alloc (Nat.le_refl _) (.cells (Lg.zero.cs).toArray 44)
                  simp only [putAll, List.foldl_cons, List.foldl_nil]
                  go_frame
                  go_wp2_with fail
                  exact ⟨rfl, _, rfl, hb3, _, rfl, hb.size, hP⟩
                exact HSteps.nil
              case grow =>
                intro kq u wa wb hb hu
                rcases kq with _ | _ | _ | _ | _ | _ | _ | _ | _ | _ | _ | kq
                · exact hu
                · exact hu
                · exact hu
                · obtain ⟨gp, ue, uf0⟩ := hu
                  exact ⟨gp, ue, uf0.below hb⟩
                · exact hu
                · exact hu
                · exact hu
                · exact hu
                · exact hu
                · obtain ⟨b14, ue, uf0, uf1⟩ := hu
                  exact ⟨b14, ue, uf0, uf1.keep hb⟩
                · obtain ⟨b15, ue, uf0, uf1⟩ := hu
                  exact ⟨b15, ue, uf0, uf1.keep hb⟩
                · trivial
              case tail =>
                intro f w7 hb7 hU
                obtain u6 : f 143 = DV.zero.v := hU.get 6 (by decide)
                obtain u7 : f 144 = Lg.zero.v := hU.get 7 (by decide)
                obtain u8 : f 145 = .int .i64 11 := hU.get 8 (by decide)
                obtain ⟨b14, u9, v9_0, v9_1⟩ : ∃ (b14 : Nat), f 14 = .pointer (some ⟨b14, 0, none⟩) ∧ wc.heap.size ≤ b14 ∧ Blk w7 b14 38 DV.zero.cs := hU.get 9 (by decide)
                obtain ⟨b15, u10, v10_0, v10_1⟩ : ∃ (b15 : Nat), f 15 = .pointer (some ⟨b15, 0, none⟩) ∧ wc.heap.size ≤ b15 ∧ Blk w7 b15 44 Lg.zero.cs := hU.get 10 (by decide)
                simp only [List.drop_succ_cons, List.drop_zero, putAll, List.foldl_cons, List.foldl_nil]
                go_frame
                simp only [u6, u7, u8, u9, u10]
                clear u6 u7 u8 u9 u10
                clear hU
                have hown0 := fun g hg => hown.lt g hg
                replace kd := kd.keep hb7
                replace kl := kl.keep hb7
                replace hown := own_below hown hb7
                replace hsl := hsl.keep hb7
                replace hbel := hbel.trans (hb7.mono hbel.size)
                have hs7 := hb7.size
                have hne : ¬ b14 = b15 := Blk.ne v9_1 v10_1 (by decide)
                clear hb7 HA k6
                go_wp2_with (first
                  | ((with_reducible refine is_store 38 ?_); refine wp_storeB b14 _ _ DV.zero.cs v9_1 diskN rfl (dv_one _) rfl rfl ?_; intro w8 k8 r8; go_frame)
                  | ((with_reducible refine is_store 44 ?_); refine wp_storeB b15 _ _ Lg.zero.cs (v10_1.grown r8 (by simpa using hne)) logN rfl (lg_one _) rfl rfl ?_; intro w9 k9 r9; go_frame))
                refine noPanic_ok ?_
                have kl9 := (kl.grown r8 (by simp; omega)).grown r9 (by simp; omega)
                have kd9 : Bx w9 G7 d D := ⟨(kd.k.grown r8 (by simp; omega)).grown r9 (by simp; omega), (kd.d.kept (Kept.grown r8 v9_1 notDk)).kept (Kept.grown r9 (v10_1.grown r8 (by simpa using hne)) (by unfold dkT; decide))⟩
                have own9 := (hown.kept r8 (.inr (fun hq => by have := (hown0 _ hq).2; omega))).kept r9 (.inr (fun hq => by have := (hown0 _ hq).2; omega))
                have sl9 := ((hsl.grown r8 (fun g hg hN => by cases hg; have := hN.2; omega)).grown r9 (fun g hg hN => by cases hg; have := hN.2; omega)).mono (N' := fun b => HL ≤ b ∧ u9.ownBlock ≠ some b) (fun b hb => hb.1)
                have C8 := hbel.grown r8 hbel.size (fun z hz => by cases hz; omega)
                have C9 := C8.grown r9 C8.size (fun z hz => by cases hz; omega)
                have hH9 : HL ≤ w9.heap.size := by have := r8.size; have := r9.size; omega
                clear kd kl hbel r8 r9 k8 k9 v9_1 v10_1 v9_0 v10_0 C8 hG7 hG8 hown hsl hown0
                go_wp2_with fail
                go_roundw
                case measure => simp [intOf]; omega
                case rel => exact ⟨k + 1, d, D, l, first, sn, s, rs, ws, by omega, by go_num, rfl, rfl, hsn, by omega, own9, sl9, kd9, kl9, hid (by obtain ⟨B, m, G, h⟩ := HS.out; exact ⟨B, m, G, h.next (by omega)⟩), C9, hH9⟩
          · have e3 : decide (md ≤ 2) = false := by simpa using happ
            rw [e3]
            clear e3 HP hpl
            obtain ⟨A9, c9, rfl, hr9, hc91, hc92⟩ := own_formN hown
            generalize wr.heap.size = bA at *
            obtain ⟨B0, m0, G0, hS⟩ := HS.out
            have hlok := hS.lok (by omega)
            have hinn := hS.inn
            have hwl := hS.wl
            have hG7 := kd.k.lt
            have hG8 := kl.lt
            have hbA := k6.lt
            have hcw := hbel.size
            obtain ⟨x0, x1, x2, x3, x4⟩ := kd.k.c5
            by_cases h3 : md = 3
            · have f3 : ((md : Int) == 3) = true := by rw [beq_iff_eq]; omega
              have hS2 := hid (hS.sync (by omega))
              clear hS hlok hinn hwl HS hr9 h3
              go_wp2_with fail
              have R := sync_any d wc
              dsimp only [DV.v] at R
              refine R.mono ?_
              clear R
              rintro e w5 ⟨rfl, b5⟩
              have hb5 := b5.size
              replace kd := kd.keep b5
              replace kl := kl.keep b5
              replace hown := own_below hown b5
              replace hsl := hsl.keep b5
              replace hbel := hbel.trans (b5.mono hbel.size)
              clear b5 x0 x1 x2 x3 x4 k6
              go_wp2_with ((with_reducible refine is_store 38 ?_); refine wp_storeB G7 _ _ d.sync.cs kd.k diskN rfl (dv_one _) rfl rfl ?_; intro w7 k7 r7; go_frame)
              have Kd : Bx w7 G7 d.sync D.sync := kd.put k7 r7 kd.d.sync
              have Kl := kl.grown r7 (by simp; omega)
              have own7 := hown.kept r7 (.inr (fun hq => by have := (hown.lt _ hq).1; omega))
              have sl7 := (hsl.grown r7 (fun g hg hN => by cases hg; have := hN.1.1; omega)).mono (N' := fun b => HL ≤ b ∧ (Value.slice A9 rs.length c9).ownBlock ≠ some b) (fun b hb => hb.1)
              have C7 := hbel.grown r7 hbel.size (fun z hz => by cases hz; omega)
              have hH7 : HL ≤ w7.heap.size := by have := r7.size; omega
              clear kd kl hown hsl hbel k7 r7
              go_wp2_with fail
              go_roundw
              case measure => simp [intOf]; omega
              case rel => exact ⟨k + 1, d.sync, D.sync, l, first, rs.length, rs.length, rs, ws, by omega, by go_num, rfl, rfl, Nat.le_refl _, by omega, own7, sl7, Kd, Kl, hid ⟨_, _, _, hS2.out⟩, C7, hH7⟩
            · have f3 : ((md : Int) == 3) = false := by rw [beq_eq_false_iff_ne]; omega
              by_cases h4 : md = 4
              · have f4 : ((md : Int) == 4) = true := by rw [beq_iff_eq]; omega
                clear h3 h4
                have hlf := hS.lf
                have hls := hS.ls
                have hln := hS.ln
                have hq2 := hS.k2
                have hlim := hS.lim
                have hS2 := hid (hS.reset (by omega))
                have HR2 := hid (reset_good l d D wc kd.d (HTb.out.keep hbel) hlok (by omega) hinn (by omega))
                have e1 : IntKind.u64.wrap ((rs.length : Nat) : Int) = ((rs.length : Nat) : Int) := by rw [IntKind.wrap_u64]; omega
                have e2 : IntKind.u64.wrap ((first : Int) + (rs.length : Int)) = ((l.nx : Nat) : Int) := by rw [IntKind.wrap_u64]; omega
                rw [hlf] at HR2
                clear hS hlok hinn hwl HS hr9 hlf hls hln
                generalize l.anew = l2 at *
                generalize (D.write 2 (hdr l2.e l.nx)).sync = DN at *
                obtain ⟨z0, z1, z2, z3, z4, z5⟩ := kl.c6
                go_wp2_with fail
                have R := HR2.out
                dsimp only [DV.v, Lg.v] at R
                refine R.mono ?_
                clear R HR2
                rintro e w5 ⟨dx, rfl, hd5, b5⟩
                have hb5 := b5.size
                replace kd := kd.keep b5
                replace kl := kl.keep b5
                replace hbel := hbel.trans (b5.mono hbel.size)
                clear b5 x0 x1 x2 x3 x4 z0 z1 z2 z3 z4 z5 k6 hown hsl
                have hG7' := kd.k.lt
                have hG8' := kl.lt
                go_wp2_with (first
                  | ((with_reducible refine is_alloc 38 ?_); refine wp_allocB (w := w5) _ arrDisk ?_; intro w6 k6 b6 s6; go_frame)
                  | ((with_reducible refine is_alloc 44 ?_); refine wp_allocN (w5.heap.size + 1) s6 _ arrLog ?_; intro w7 k7 b7 s7; go_frame)
                  | ((with_reducible refine is_store 38 ?_); refine wp_storeB w5.heap.size _ _ dx.cs (k6.keep (by rw [s6]; exact b7)) diskN rfl (dv_one _) rfl rfl ?_; intro w8 k8 r8; go_frame)
                  | ((with_reducible refine is_store 44 ?_); refine wp_storeB (w5.heap.size + 1) _ _ l2.cs (k7.grown r8 (by simp)) logN rfl (lg_one _) rfl rfl ?_; intro w9 k9 r9; go_frame))
                have b67 : Below w5.heap.size w5 w7 := b6.trans ((show Below w6.heap.size w6 w7 by rw [s6]; exact b7).mono b6.size)
                have K9 := ((Kept.below b67).trans (Kept.grown r8 (k6.keep (by rw [s6]; exact b7)) notDk)).trans (Kept.grown r9 (k7.grown r8 (by simp)) (by unfold dkT; decide))
                have hd9 := hd5.kept K9
                have kd9 := ((kd.k.keep b67).grown r8 (by simp; omega)).grown r9 (by simp; omega)
                have kl9 := ((kl.keep b67).grown r8 (by simp; omega)).grown r9 (by simp; omega)
                have k89 := k8.grown r9 (by simp)
                have C6 := hbel.trans (b67.mono hbel.size)
                have C8 := C6.grown r8 C6.size (fun z hz => by cases hz; have := hbel.size; omega)
                have C9 := C8.grown r9 C8.size (fun z hz => by cases hz; have := hbel.size; omega)
                have hs9 : HL ≤ w9.heap.size := by have := b67.size; have := r8.size; have := r9.size; omega
                have n7 : ¬ G7 = w5.heap.size ∧ ¬ G7 = w5.heap.size + 1 ∧ ¬ G8 = w5.heap.size ∧ ¬ G8 = w5.heap.size + 1 := ⟨by omega, by omega, by omega, by omega⟩
                have m7 := kd9.lt
                have m8 := kl9.lt
                have m13 := k89.lt
                have m14 := k9.lt
                clear kd kl hbel b6 s6 b7 s7 k6 k7 k8 r8 r9 b67 K9 hd5 C6 C8
                go_wp2_with fail
                generalize w5.heap.size = b17 at *
                obtain ⟨b18, hb18⟩ : ∃ z, b17 + 1 = z := ⟨_, rfl⟩
                rw [hb18] at k9 n7 m14 ⊢
                have hne : ¬ b17 = b18 := by omega
                clear hb18
                obtain ⟨x0, x1, x2, x3, x4⟩ := k89.c5
                obtain ⟨z0, z1, z2, z3, z4, z5⟩ := k9.c6
                try dsimp only at z0 z1 z2 z3 z4 z5
                obtain ⟨y0, y1, y2, y3, y4⟩ := kd9.c5
                have f7 := kd9.fz
                obtain ⟨s7, g7⟩ := set5 kd9 rfl (.int .i64 dx.n) (.pointer dx.s) (.pointer dx.c) (.pointer dx.l) (.int .i64 dx.m)
                have kBs := k9.grown g7 (by simp; omega)
                have kls := kl9.grown g7 (by simp; omega)
                have f8 := kls.fz
                obtain ⟨b0, b1, b2, b3, b4, b5⟩ := kBs.c6
                try dsimp only at b0 b1 b2 b3 b4 b5
                obtain ⟨c0, c1, c2, c3, c4, c5⟩ := kls.c6
                try dsimp only at c0 c1 c2 c3 c4 c5
                go_region
                obtain ⟨s8, g8⟩ := set6 kls rfl (.int .i64 l2.from_) (.int .i64 l2.size) (.int .u64 l2.e) (.int .u64 l2.g) (.int .u64 l2.nx) (.int .i64 l2.at_)
                have hd10 := hd9.kept (Kept.grown g7 kd9 notDk)
                have hd11 := hd10.kept (Kept.grown g8 kls (by unfold dkT; decide))
                have C10 := C9.grown g7 C9.size (fun q hq => by cases hq; omega)
                have C11 := C10.grown g8 C10.size (fun q hq => by cases hq; omega)
                have hz := Nat.le_trans g7.size g8.size
                have s7' := s7.grown g8 (by simp; omega)
                clear x0 x1 x2 x3 x4 z0 z1 z2 z3 z4 z5 y0 y1 y2 y3 y4 b0 b1 b2 b3 b4 b5 c0 c1 c2 c3 c4 c5 f7 f8 s7 kBs kls hd9 hd10 C9 C10 g7 g8 kd9 kl9 k89 k9
                generalize World.setCell (World.setCell _ _ _) _ _ = w11 at hz s7' s8 hd11 C11 ⊢
                have Kd : Bx w11.drew G7 dx _ := ⟨s7', hd11.keep (Below.refl _ _).drew⟩
                have Kl : Blk w11.drew G8 44 l2.cs := s8
                replace hz := (show _ ≤ w11.drew.heap.size from hz)
                have hbel : Below w.heap.size w w11.drew := C11.drew
                clear s7' s8 hd11 C11
                generalize w11.drew = w12 at *
                go_wp2_with fail
                go_roundw
                case measure => simp [intOf]; omega
                case rel => exact ⟨k + 1, dx, DN, l2, l.nx, 0, 0, [], [], by omega, by go_num, rfl, rfl, Nat.le_refl _, by simp, World.ownsRow_nil _ _ _ _, Sls.nil, Kd, Kl, hid ⟨_, _, _, hS2.out⟩, hbel, by omega⟩
              · have f4 : ((md : Int) == 4) = false := by rw [beq_eq_false_iff_ne]; omega
                have hlim := hS.lim
                have hq2 := hS.k2
                have hsr := hS.sr
                have hnn := hS.n
                have hS2 := hid hS
                obtain ⟨a0, a1, a2, a3⟩ := k6.c4
                obtain ⟨b5, e5⟩ : ∃ z, ((md : Int) == 5) = z := ⟨_, rfl⟩
                have HFl := hid (And.intro hlim (And.intro hq2 hnn))
                clear hS hlok hinn HS hr9 hlim hnn h3 h4
                go_upto_if 53 with fail
                go_cut [11] (fun v wx => ∃ (d1 : DV) (D1 : Dk) (l' : Lg) (j sy s2 : Nat), v = .int .i64 sy ∧ sy ≤ j ∧ j ≤ rs.length ∧ Hid (b5 = true → j ≤ s2) ∧ Bx wx G7 d1 D1 ∧ Blk wx G8 44 l.cs ∧ Blk wx bA 34 x.cs ∧ wx.ownsRow HL 25 1 (.slice A9 rs.length c9) rs.length (ws.map Sl.v) ∧ Sls (fun b => (HL ≤ b ∧ (Value.slice A9 rs.length c9).ownBlock ≠ some b) ∧ b < bA) wx ws (rs.map (·.2)) ∧ Hid (wopen D1.cur 2 q = some (l', (rs.take j).map (·.2)) ∧ hdrF (D1.cur 2) = first ∧ l'.nx = first + j ∧ D1.n = q + 3) ∧ Hid (∃ B m G, Sv (k + 1) q D1 l' first (rs.take j) B m s2 G) ∧ Below w.heap.size w wx ∧ HL ≤ wx.heap.size)
                case first =>
                  cases b5 with
                  | true =>
                    obtain ⟨j, hsj, hjr, l', X', G', ho, hf, hn', hS3⟩ := hS2.out.crash (by omega) x.ch
                    have HO := hid (And.intro ho (And.intro hf (And.intro hn' hS3.n)))
                    have HS3 := hid hS3
                    clear ho hf hn' hS3
                    go_wp2_with fail
                    have R := crash_any d D x.ch wc kd.d (by omega) hch
                    dsimp only [DV.v] at R
                    refine R.mono ?_
                    clear R
                    rintro e w5 ⟨d1, rfl, hd5, b5'⟩
                    have hb5 := b5'.size
                    replace kd := kd.keep b5'
                    replace kl := kl.keep b5'
                    replace k6 := k6.keep b5'
                    replace hown := own_below hown b5'
                    replace hsl := hsl.keep b5'
                    replace hbel := hbel.trans (b5'.mono hbel.size)
                    clear b5' x0 x1 x2 x3 x4 a0 a1 a2 a3
                    go_wp2_with ((with_reducible refine is_store 38 ?_); refine wp_storeB G7 _ _ d1.cs kd.k diskN rfl (dv_one _) rfl rfl ?_; intro w7 k7 r7; go_frame)
                    have Kd : Bx w7 G7 d1 (D.crash x.ch) := kd.put k7 r7 hd5
                    have Kl := kl.grown r7 (by simp; omega)
                    have Kx := k6.grown r7 (by simp; omega)
                    have own7 := hown.kept r7 (.inr (fun hq => by have := (hown.lt _ hq).1; omega))
                    have sl7 := hsl.grown r7 (fun g hg hN => by cases hg; have := hN.1.1; omega)
                    have C7 := hbel.grown r7 hbel.size (fun z hz => by cases hz; omega)
                    have hH7 : HL ≤ w7.heap.size := by have := r7.size; omega
                    clear kd kl k6 hown hsl hbel k7 r7 hd5
                    go_wp2_with fail
                    go_meet
                    case rel => exact ⟨d1, D.crash x.ch, l', j, sn, j, rfl, by omega, hjr, hid fun _ => Nat.le_refl _, Kd, Kl, Kx, own7, sl7, HO, hid ⟨_, _, _, HS3.out⟩, C7, hH7⟩
                  | false =>
                    obtain ⟨g, ho, hf, hS3⟩ := hS2.out.open_ (by omega)
                    have HO := hid (And.intro ho (And.intro hf hS3.n))
                    have HS3 := hid hS3
                    have HLN := hid hS2.out.ln
                    clear ho hf hS3
                    go_wp2_with fail
                    go_meet
                    case rel => exact ⟨d, D, l.opened g, rs.length, rs.length, s, rfl, Nat.le_refl _, Nat.le_refl _, hid (fun h => by cases h), kd, kl, k6, hown, hsl, hid ⟨by rw [List.take_length]; exact HO.out.1, HO.out.2.1, HLN.out, HO.out.2.2⟩, hid (by rw [List.take_length]; exact ⟨_, _, _, HS3.out⟩), hbel, by omega⟩
                case rest =>
                  obtain ⟨d1, D1, l', j, sy, s2, rfl, hsyj, hjr, HB5, Kd, Kl, Kx, own7, sl7, HO, HS3, C7, hH7⟩ := hcut
                  clear kd kl k6 hown hsl hbel x0 x1 x2 x3 x4 a0 a1 a2 a3 hG7 hG8 hbA hcw hwl
                  have kB := Kd.k.lt
                  have kG := Kl.lt
                  obtain ⟨x0, x1, x2, x3, x4⟩ := Kd.k.c5
                  go_wp2_with fail
                  have R := wopen_any d1 D1 2 q wc Kd.d (HTb.out.keep C7) HFl.out.2.1 (by have := HO.out.2.2.2; omega)
                  rw [HO.out.1, HO.out.2.1] at R
                  unfold wopenE at R
                  dsimp only at R
                  rw [show ((2 : Nat) : Int) = 2 from rfl] at R
                  simp only [DV.v] at R
                  refine R.mono ?_
                  clear R x0 x1 x2 x3 x4
                  rintro e w10 ⟨⟨sA, sn', sc⟩, rfl, hrr, b10⟩
                  have hen := hrr.e
                  rw [recsAt_len, List.length_map, List.length_take, Nat.min_eq_left hjr] at hen
                  dsimp only at hen
                  replace hen := hen.symm
                  subst hen
                  have hb10 := b10.size
                  replace Kd := Kd.keep b10
                  replace Kl := Kl.keep b10
                  replace Kx := Kx.keep b10
                  replace own7 := own_below own7 b10
                  replace sl7 := sl7.keep b10
                  replace C7 := C7.trans (b10.mono C7.size)
                  have hs10 := C7.size
                  have lB := Kd.k.lt
                  have lG := Kl.lt
                  have lX := Kx.lt
                  have N1 := fun wx => next_any l' wx
                  have HN1 := hid N1
                  have eg : IntKind.u64.wrap ((j : Nat) : Int) = ((j : Nat) : Int) := by rw [IntKind.wrap_u64]; omega
                  have eg2 : IntKind.u64.wrap ((first : Int) + (j : Int)) = ((l'.nx : Nat) : Int) := by have h1 := HO.out.2.2.1; have h2 := HFl.out.1; rw [IntKind.wrap_u64, h1]; omega
                  have tj1 : ¬ ((j : Int) < (sy : Int)) := by omega
                  have tj2 : decide ((j : Int) < (sy : Int)) = false := by simp; omega
                  have tj3 : ¬ ((j : Int) > (rs.length : Int)) := by omega
                  have tj4 : decide ((rs.length : Int) < (j : Int)) = false := by simp; omega
                  clear b10 N1 kB kG
                  simp only [Sl.v, Lg.v]
                  go_wp2_with (first
                    | ((with_reducible refine is_alloc 44 ?_); refine wp_allocB (w := w10) _ arrLog ?_; intro w11 k11 b11 s11; go_frame)
                    | ((with_reducible refine is_store 44 ?_); refine wp_storeB w10.heap.size _ _ l'.cs k11 logN rfl (lg_one _) rfl rfl ?_; intro w12 k12 r12; go_frame; obtain ⟨z0, z1, z2, z3, z4, z5⟩ := k12.c6; have l12 := k12.lt))
                  refine (HN1.out _).mono ?_
                  rintro e w13 ⟨rfl, b13⟩
                  have ba : Below w10.heap.size w10 w12 := b11.grown r12 b11.size (fun z hz => by cases hz; exact Nat.le_refl _)
                  have bb := ba.trans (b13.mono ba.size)
                  replace Kd := Kd.keep bb
                  replace Kl := Kl.keep bb
                  replace Kx := Kx.keep bb
                  replace own7 := own_below own7 bb
                  replace sl7 := sl7.keep bb
                  replace hrr := hrr.keep bb
                  replace C7 := C7.trans (bb.mono C7.size)
                  have k13 := k12.keep b13
                  have hbb := bb.size
                  clear z0 z1 z2 z3 z4 z5 l12 k11 b11 s11 k12 r12 b13 ba bb lB lG lX
                  generalize w10.heap.size = b20 at *
                  go_wp2_with fail
                  have hfl := HFl.out.1
                  go_loopw [23] (fun i wq => ∃ t : Nat, t ≤ j ∧ i = .int .i64 t ∧ Below w13.heap.size w13 wq) (fun i _ => j - (intOf i).toNat)
                  case atStart => exact ⟨0, by omega, rfl, Below.refl _ _⟩
                  case round =>
                    obtain ⟨t, ht, rfl, hbt⟩ := hrel
                    by_cases hlt2 : t < j
                    · have hrt : rs[t]? = some rs[t] := List.getElem?_eq_getElem (by omega)
                      obtain ⟨pt, hpt⟩ : ∃ z, (rs[t]'(by omega)).2 = z := ⟨_, rfl⟩
                      have hrp : (rs.map (·.2))[t]? = some pt := by rw [List.getElem?_map, hrt, ← hpt]; rfl
                      have hrp2 : ((rs.take j).map (·.2))[t]? = some pt := by rw [List.getElem?_map, List.getElem?_take, if_pos hlt2, hrt, ← hpt]; rfl
                      obtain ⟨b1, o1, ⟨pA, pn, pc⟩, eA, hb1, hc0, hc1, hsl1⟩ := (hrr.keep hbt).at (recsAt_at first _ t pt (by omega) hrp2)
                      dsimp only at eA hc0 hc1
                      subst eA
                      have hw0 : (ws.map Sl.v).length = rs.length := by have := own7.1; omega
                      have hwt : t < ws.length := by rw [List.length_map] at hw0; omega
                      obtain ⟨b2, o2, eB, hb2, hcl⟩ := (RL.of_own (own_below own7 hbt)).2 (by omega)
                      have hwx : ws[t]? = some ws[t] := List.getElem?_eq_getElem hwt
                      obtain ⟨wt, hwt2⟩ : ∃ z, ws[t] = z := ⟨_, rfl⟩
                      rw [hwt2] at hwx
                      have hc2 := hcl t wt.v (by rw [List.getElem?_map, hwx]; rfl)
                      have hsl2 := (sl7.keep hbt).2 t wt pt hwx hrp
                      obtain ⟨qA, qn, qc⟩ := wt
                      have r1 := hsl1.rb
                      have r2 := hsl2.rb
                      dsimp only at r1 r2
                      simp only [Sl.v] at hc1 hc2
                      subst eB
                      obtain ⟨ln, hln⟩ : ∃ z, (first + t) % 18446744073709551616 = z := ⟨_, rfl⟩
                      rw [hln] at hc0
                      have eg3 : IntKind.u64.wrap ((t : Nat) : Int) = ((t : Nat) : Int) := by rw [IntKind.wrap_u64]; omega
                      have eg4 : IntKind.u64.wrap ((first : Int) + (t : Int)) = ((ln : Nat) : Int) := by rw [IntKind.wrap_u64]; omega
                      have y1 : ((ln : Int) != (ln : Int)) = false := bne_self_eq_false _
                      have hdl : decide ((ln : Int) = (ln : Int)) = true := by simp
                      have cv1 := fun x : Ext wr => run_str (RB.below r1 x.h) 25 9 5 pc Tryd.underlying25 Tryd.underlying5 Tryd.underlying9
                      have cv2 := fun x : Ext wr => run_str (RB.below r2 x.h) 25 9 5 qc Tryd.underlying25 Tryd.underlying5 Tryd.underlying9
                      have g0 := fun x : Ext wr => (x.h.cell hb1).trans hc0
                      have g1 := fun x : Ext wr => (x.h.cell hb1).trans hc1
                      have g2 := fun x : Ext wr => (x.h.cell hb2).trans hc2
                      have tt : (t : Int) < (j : Int) := by omega
                      have tt2 : (t : Int) < (rs.length : Int) := by omega
                      have HB := hid (And.intro hb1 hb2)
                      clear hrt hpt hrp hrp2 hc0 hc1 hc2 hsl1 hsl2 hcl hwx hwt2 r1 r2 hln hb1 hb2
                      go_wp2_with fail
                      (refine wp_region_ext (by kernel_rfl) (by kernel_rfl) ?_; (repeat (go_big_quiet_step ((fail)))); refine wpQuiet_nil ?_; rintro _ ⟨y9, rfl⟩)
                      have hbt2 := hbt.trans (y9.h.mono hbt.size)
                      go_wp2_with fail
                      go_roundw
                      case measure => simp [intOf]; omega
                      case rel => exact ⟨t + 1, by omega, by go_num, hbt2⟩
                    · obtain rfl : j = t := by omega
                      have C8 := C7.trans (hbt.mono C7.size)
                      replace Kd := Kd.keep hbt
                      replace Kl := Kl.keep hbt
                      replace Kx := Kx.keep hbt
                      replace k13 := k13.keep hbt
                      replace own7 := own_below own7 hbt
                      replace sl7 := sl7.keep hbt
                      have hHt : HL ≤ wr.heap.size := by have := hbt.size; omega
                      obtain ⟨a0, a1, a2, a3⟩ := Kx.c4
                      cases b5 with
                      | true =>
                        go_wp2_with fail
                        obtain ⟨z0, z1, z2, z3, z4, z5⟩ := k13.c6
                        have m20 := k13.lt
                        have m8 := Kl.lt
                        have f8 := Kl.fz
                        obtain ⟨c0, c1, c2, c3, c4, c5⟩ := Kl.c6
                        go_region
                        obtain ⟨s8, g8⟩ := set6 Kl rfl (.int .i64 l'.from_) (.int .i64 l'.size) (.int .u64 l'.e) (.int .u64 l'.g) (.int .u64 l'.nx) (.int .i64 l'.at_)
                        have Kd9 : Bx _ G7 d1 D1 := ⟨Kd.k.grown g8 (by simp; omega), Kd.d.kept (Kept.grown g8 Kl (by unfold dkT; decide))⟩
                        have own9 := (own_pre own7 hjr).kept g8 (.inr (fun hq => by have := ((own_pre own7 hjr).lt _ hq).1; omega))
                        have sl9 := ((sl7.grown g8 (fun g hg hN => by cases hg; have := hN.1.1; omega)).mono (N' := fun b => HL ≤ b ∧ (Value.slice A9 j c9).ownBlock ≠ some b) (fun b hb => ⟨hb.1.1, fun hq => hb.1.2 (by cases A9 with | none => cases hq | some a => exact hq)⟩)).take j
                        have C9 := C8.grown g8 C8.size (fun z hz => by cases hz; omega)
                        have hH9 := Nat.le_trans hHt g8.size
                        clear z0 z1 z2 z3 z4 z5 c0 c1 c2 c3 c4 c5 f8 g8 Kd Kl own7 sl7 C8 m8 m20 k13 a0 a1 a2 a3 Kx
                        generalize World.setCell _ _ _ = w11 at s8 Kd9 own9 sl9 C9 hH9 ⊢
                        have Kd10 := Kd9.keep (Below.refl _ _).drew
                        have Kl10 : Blk w11.drew G8 44 l'.cs := s8
                        have own10 := own_below own9 (Below.refl _ _).drew
                        have sl10 := sl9.keep (Below.refl _ _).drew
                        have C10 := C9.drew
                        have e20 : j = (rs.take j).length := by rw [List.length_take]; omega
                        have e21 : (ws.map Sl.v).take j = (ws.take j).map Sl.v := List.map_take.symm
                        have e22 : (rs.map (·.2)).take j = (rs.take j).map (·.2) := List.map_take.symm
                        rw [e21] at own10
                        rw [e22] at sl10
                        have HE := hid e20
                        clear Kd9 s8 own9 sl9 C9 e20 e21 e22
                        go_wp2_with fail
                        go_roundw
                        case measure => simp [intOf]; omega
                        case rel => exact ⟨k + 1, d1, D1, l', first, j, s2, rs.take j, ws.take j, by omega, by go_num, rfl, rfl, HB5.out trivial, by rw [List.length_take]; omega, by rw [← HE.out]; exact own10, sl10, Kd10, Kl10, HS3, C10, hH9⟩
                      | false =>
                        go_wp2_with fail
                        obtain ⟨z0, z1, z2, z3, z4, z5⟩ := k13.c6
                        have m20 := k13.lt
                        have m8 := Kl.lt
                        have f8 := Kl.fz
                        obtain ⟨c0, c1, c2, c3, c4, c5⟩ := Kl.c6
                        go_region
                        obtain ⟨s8, g8⟩ := set6 Kl rfl (.int .i64 l'.from_) (.int .i64 l'.size) (.int .u64 l'.e) (.int .u64 l'.g) (.int .u64 l'.nx) (.int .i64 l'.at_)
                        have Kd9 : Bx _ G7 d1 D1 := ⟨Kd.k.grown g8 (by simp; omega), Kd.d.kept (Kept.grown g8 Kl (by unfold dkT; decide))⟩
                        have own9 := (own_pre own7 hjr).kept g8 (.inr (fun hq => by have := ((own_pre own7 hjr).lt _ hq).1; omega))
                        have sl9 := ((sl7.grown g8 (fun g hg hN => by cases hg; have := hN.1.1; omega)).mono (N' := fun b => HL ≤ b ∧ (Value.slice A9 j c9).ownBlock ≠ some b) (fun b hb => ⟨hb.1.1, fun hq => hb.1.2 (by cases A9 with | none => cases hq | some a => exact hq)⟩)).take j
                        have C9 := C8.grown g8 C8.size (fun z hz => by cases hz; omega)
                        have hH9 := Nat.le_trans hHt g8.size
                        clear z0 z1 z2 z3 z4 z5 c0 c1 c2 c3 c4 c5 f8 g8 Kd Kl own7 sl7 C8 m8 m20 k13 a0 a1 a2 a3 Kx
                        generalize World.setCell _ _ _ = w11 at s8 Kd9 own9 sl9 C9 hH9 ⊢
                        have Kd10 := Kd9.keep (Below.refl _ _).drew
                        have Kl10 : Blk w11.drew G8 44 l'.cs := s8
                        have own10 := own_below own9 (Below.refl _ _).drew
                        have sl10 := sl9.keep (Below.refl _ _).drew
                        have C10 := C9.drew
                        have e20 : j = (rs.take j).length := by rw [List.length_take]; omega
                        have e21 : (ws.map Sl.v).take j = (ws.take j).map Sl.v := List.map_take.symm
                        have e22 : (rs.map (·.2)).take j = (rs.take j).map (·.2) := List.map_take.symm
                        rw [e21] at own10
                        rw [e22] at sl10
                        have HE := hid e20
                        clear Kd9 s8 own9 sl9 C9 e20 e21 e22
                        go_wp2_with fail
                        go_roundw
                        case measure => simp [intOf]; omega
                        case rel => exact ⟨k + 1, d1, D1, l', first, 0, s2, rs.take j, ws.take j, by omega, by go_num, rfl, rfl, Nat.zero_le _, by rw [List.length_take]; omega, by rw [← HE.out]; exact own10, sl10, Kd10, Kl10, HS3, C10, hH9⟩
      · obtain rfl : k = n := by omega
        go_wp2_with fail
        refine (awake_any _ (HTb.out.keep hbel)).mono ?_
        rintro e w5 ⟨rfl, b5⟩
        go_wp2_with fail
        go_ret
        exact ⟨rfl, hbel.trans (b5.mono hbel.size)⟩
end Go.Proofs.YtlokfndonjldpaaDoor

