/- intact of package wal, walked where the record fits. Conditions: the sectors read; the table of remainders is laid. -/
import Derived.Test.YtlokfndonjldpaaDoorIntact
set_option linter.unusedSimpArgs false
set_option linter.unusedVariables false
namespace Go.Proofs.YtlokfndonjldpaaDoor
open Go.RowKit

theorem set3 {w : World} {g : Nat} {t : TypeId} {cs : List Value} (h : Blk w g t cs) (hl : cs.length = 3) (a b c : Value) :
    Blk (((w.setCell ⟨g, 0, none⟩ a).setCell ⟨g, 1, none⟩ b).setCell ⟨g, 2, none⟩ c) g t [a, b, c] ∧
    w.grownBy (((w.setCell ⟨g, 0, none⟩ a).setCell ⟨g, 1, none⟩ b).setCell ⟨g, 2, none⟩ c) (some g) := by
  match cs, hl with
  | [x0, x1, x2], _ =>
    have h0 := h.set_ 0 a
    have h1 := h0.set_ 1 b
    have h2 := h1.set_ 2 c
    exact ⟨h2, ((h.setg 0 a).trans (h0.setg 1 b)).trans (h1.setg 2 c)⟩
set_option maxRecDepth 100000 in
set_option maxHeartbeats 4000000 in
theorem intact_go (A : Option Addr) (n c : Nat) (fs : List (List UInt8)) (w : World) (hT : Tab w) (h : SecL w A n fs) (h1 : 1 ≤ n) (hnc : n ≤ c) (hcm : c ≤ 9223372036854775807) (hL1 : recLen fs ≤ 8192) (hL2 : cnt (recLen fs) ≤ n) :
    Calls Tryd.prog 42 #[.slice A n c] w fun e w' => intactE (intactP fs) e w w' := by
  have HS := hid h
  have HTb := hid hT
  have HP : Hid (intactP fs = if fs.take (cnt (recLen fs)) = recSecs (tag1 fs) (payl fs) then some (tag1 fs, payl fs, cnt (recLen fs)) else none) := by
    show _ = _
    unfold intactP
    by_cases hq : fs.take (cnt (recLen fs)) = recSecs (tag1 fs) (payl fs)
    · rw [if_pos ⟨hL1, by rw [h.len]; exact hL2, hq⟩, if_pos hq]
    · rw [if_neg (fun hh => hq hh.2.2), if_neg hq]
  have HI := hid (intact_iff h.l128 (by rw [h.len]; exact hL2))
  have HD := hid (data_of h.l128 (by rw [h.len]; exact hL2))
  have HPy : Hid (payl fs = ((parts (fs.take (cnt (recLen fs)))).drop 4).take (recLen fs)) := hid rfl
  obtain ⟨b, off, b0, o0, c0, s0, rfl, hb, hs0, hl0, hcell, hrb, hc1, hc2⟩ := h.at (i := 0) (by omega)
  have hL : num ((s0.drop 24).take 4) = recLen fs := by
    unfold recLen
    cases fs with
    | nil => cases hs0
    | cons x r => cases hs0; rfl
  have ht1 : s0.take 24 = tag1 fs := by
    unfold tag1
    cases fs with
    | nil => cases hs0
    | cons x r => cases hs0; rfl
  have HQ := hid ht1
  clear ht1 hT h
  rw [Nat.add_zero] at hcell
  have n24 : ¬ c0 = 24 := by omega
  have n0 : ¬ n = 0 := by omega
  have HT := hid (fun w' (hb : Below w.heap.size w w') => tagOf_any b0 o0 128 c0 s0 w' (hrb.below hb) (by omega) hc1 hc2)
  have HV := hid (fun w' (hb : Below w.heap.size w w') => value_any (some ⟨b0, o0 + 24, none⟩) 4 (c0 - 24) _ w' ((hrb.below hb).sub 24 4 (by omega)) (by omega))
  go_enter Tryd.func42, Tryd.ntmps42
  go_wp2_with ((with_reducible refine is_alloc 95 ?_); refine wp_allocB (w := w) _ arrTag ?_; intro w1 k1 b1 s1; go_frame; have hcell := (b1.cell (p := ⟨b, off, none⟩) hb).trans hcell)
  refine (HT.out _ b1).mono ?_
  rintro e w2 ⟨rfl, b2⟩
  have k2 := k1.keep b2
  have B2 := b1.trans (b2.mono b1.size)
  have hc2' := (b2.cell (p := ⟨b, off, none⟩) (by have := b1.size; show b < w1.heap.size; omega)).trans hcell
  clear hcell k1 b1 s1 b2 HT
  unfold tagV
  go_wp2_with (first
    | ((with_reducible refine is_alloc 95 ?_); refine wp_allocB (w := w2) _ arrTag ?_; intro w3 k3 b3 s3; go_frame)
    | ((with_reducible refine is_store 95 ?_); refine wp_storeB w2.heap.size _ _ (tagCs s0) k3 tagN rfl (tag_one s0) rfl rfl ?_; intro w4 k4 r4; go_frame; have hc4 : w4.cell? ⟨b, off, none⟩ = some (.slice (some ⟨b0, o0, none⟩) 128 c0) := (World.cell?_of_block (r4.block b (by have := B2.size; have := b3.size; omega) (by have := B2.size; simp; omega))).trans ((b3.cell (p := ⟨b, off, none⟩) (by have := B2.size; show b < w2.heap.size; omega)).trans hc2')))
  have k3' := (k2.keep b3).grown r4 (by have := k2.lt; simp; omega)
  have B4 := (B2.trans (b3.mono B2.size)).grown r4 (B2.trans (b3.mono B2.size)).size (fun k hk => by cases hk; exact B2.size)
  refine (HV.out _ B4).mono ?_
  rintro e w' ⟨rfl, rfl⟩
  rw [hL]
  have hg5 : w.heap.size < w2.heap.size := by have := k2.lt; omega
  clear hc4 hc2' HV k2 r4 b3 s3
  have hg4 := k4.lt
  generalize w2.heap.size = g5 at *
  clear k3 B2
  have HR := hid hrb
  have HLL := hid hL
  obtain ⟨K, hKe⟩ : ∃ z, cnt (recLen fs) = z := ⟨_, rfl⟩
  have HK := hid hKe
  have hLm : recLen fs ≤ 8192 := hL1
  have e1 : ((recLen fs : Int) + 8 + 80 - 1) / 80 = (K : Int) := by rw [← hKe]; unfold cnt; omega
  have hK103 : K ≤ 103 := by rw [← hKe]; unfold cnt; omega
  have hKn : K ≤ n := by omega
  have hrm : recLen fs + 8 ≤ 80 * K := by rw [← hKe]; exact cnt_room _
  rw [hKe] at HP HI HD hL2 HPy
  generalize recLen fs = L at *
  have t1 : ¬ (L : Int) > 8192 := by omega
  have t2 : ¬ (K : Int) > (n : Int) := by omega
  clear hL1 hL2 hKe hL hrb
  obtain ⟨g0, hg0⟩ : ∃ z, z = w4.heap.size := ⟨_, rfl⟩
  go_wp2_with (at_make; refine wp_make0 _ rfl _ _ 25 rfl g0 5 _ 1 bytesT .i64 .i64 _ (80 * K) rfl rfl (by omega) (by omega) (by unfold maxLen; omega) (by omega) ?_; intro w5 hown5 hg5'; go_frame)
  have k3 := k3'.grown hg5' (by intro hh; cases hh)
  have k5 := k4.grown hg5' (by intro hh; cases hh)
  have B5 := B4.grown hg5' B4.size (fun k hk => by cases hk)
  have hgs : w.heap.size ≤ g0 ∧ g5 < g0 := ⟨by have := B4.size; omega, by omega⟩
  have hg0s : g0 ≤ w5.heap.size := by have := hg5'.size; omega
  clear k3' k4 B4 hg5' hg4
  go_loopw [9, 48] (fun v i wr => ∃ k : Nat, k ≤ K ∧ i = .int .i64 k ∧ wr.ownsRow g0 5 1 v (80 * k) ((parts (fs.take k)).map byV) ∧ Hid (∀ s ∈ fs.take k, s.take 24 = tag1 fs ∧ (s.drop 64).take 24 = tag1 fs) ∧ Blk wr w.heap.size 95 tagZ ∧ Blk wr g5 95 (tagCs s0) ∧ Below w.heap.size w wr ∧ g0 ≤ wr.heap.size) (fun _ i _ => K - (intOf i).toNat)
  case atStart => exact ⟨0, Nat.zero_le _, rfl, hown5, hid (fun s hs => by cases hs), k3, k5, B5, by have := hg0s; omega⟩
  case round =>
    obtain ⟨k, hk, rfl, hown, HA, kr3, kr5, hbel, hgr⟩ := hrel
    clear hown5 k3 k5 B5
    by_cases hlt : k < K
    · --DEV
      obtain ⟨b2, off2, b', o', c', s, eA, hbb, hs, hsl, hcell, hrs, hs1, hs2⟩ := HS.out.at (i := k) (by omega)
      cases eA
      have HX := hid hs
      have hcell' := (hbel.cell (p := ⟨b, off + k, none⟩) hbb).trans hcell
      clear hs hcell
      go_wp2_with fail
      go_loopw [9, 12] (fun v i wq => ∃ j : Nat, j ≤ 2 ∧ i = .int .i64 (64 * (j : Int)) ∧ wq.ownsRow g0 5 1 v (80 * k + 40 * j) ((parts (fs.take k) ++ (part s).take (40 * j)).map byV) ∧ Hid ((1 ≤ j → s.take 24 = tag1 fs) ∧ (2 ≤ j → (s.drop 64).take 24 = tag1 fs)) ∧ Blk wq w.heap.size 95 tagZ ∧ Blk wq g5 95 (tagCs s0) ∧ Below w.heap.size w wq ∧ g0 ≤ wq.heap.size) (fun _ i _ => 128 - (intOf i).toNat)
      case atStart => exact ⟨0, by omega, rfl, by simpa using hown, hid ⟨fun h => absurd h (by omega), fun h => absurd h (by omega)⟩, kr3, kr5, hbel, hgr⟩
      case round =>
        obtain ⟨j, hj, rfl, hownj, HJ, kq3, kq5, hbelq, hgq⟩ := hrel
        clear hown kr3 kr5 hcell' hbel
        by_cases hj2 : j < 2
        · have hrq : RB wr (some ⟨b', o', none⟩) 128 s := hrs.below hbelq
          have hlt' : (64 * (j : Int)) < 128 := by omega
          have nc : ¬ c' = 64 * j := by omega
          have ks : ∀ wx, (Instr.slice 25 (.slice (some ⟨b', o', none⟩) 128 c') (some (.int .i64 (64 * (j : Int)))) none none).run Tryd.prog wx = .ok (.slice (some ⟨b', o' + 64 * j, none⟩) (128 - 64 * j) (c' - 64 * j)) wx := fun wx => by
            have := run_from (P := Tryd.prog) 25 5 Tryd.underlying25 bytesN (some ⟨b', o', none⟩) 128 c' (64 * j) .i64 (64 * (j : Int)) rfl (by omega) wx
            rw [if_neg nc] at this
            simpa [add_spot] using this
          have HTj := fun z : Ext wr => tagOf_any b' (o' + 64 * j) (128 - 64 * j) (c' - 64 * j) (s.drop (64 * j)) z.w ((hrq.tail (64 * j) (128 - 64 * j) (by omega)).below z.h) (by omega) (by omega) (by omega)
          have l5 := kq5.lt
          have x5 := fun z : Ext wr => (kq5.keep z.h).c3
          have x50 := fun z => (x5 z).1
          have x51 := fun z => (x5 z).2.1
          have x52 := fun z => (x5 z).2.2
          clear x5
          unfold tagV at HTj
          have HX3 := hid (tag_eq (l := s.drop (64 * j)) (r := s0) (by simp; omega) (by omega))
          have HXj : Hid ((s.drop (64 * j)).take 24 = if j = 0 then s.take 24 else (s.drop 64).take 24) := by
            show _ = _
            rcases j with _ | _ | j
            · simp
            · simp
            · omega
          rw [HXj.out] at HX3
          clear HXj
          generalize tE (s.drop (64 * j)) = a1 at *
          generalize tG (s.drop (64 * j)) = a2 at *
          generalize tL (s.drop (64 * j)) = a3 at *
          by_cases hall : a1 = tE s0 ∧ a2 = tG s0 ∧ a3 = tL s0
          · have HN := hid (HX3.out.1 hall)
            have y1 : ((a1 : Int) == (tE s0 : Int)) = true := by rw [hall.1]; exact beq_self_eq_true _
            have y2 : ((a2 : Int) == (tG s0 : Int)) = true := by rw [hall.2.1]; exact beq_self_eq_true _
            have y3 : ((a3 : Int) == (tL s0 : Int)) = true := by rw [hall.2.2]; exact beq_self_eq_true _
            clear HX3 hall
            go_wp2_with fail
            (refine wp_region_ext (by kernel_rfl) (by kernel_rfl) ?_; (repeat (go_big_quiet_step ((go_at_call 55; exact Ext.calls _ (HTj _))))); refine wpQuiet_nil ?_; rintro _ ⟨z, rfl⟩)
            clear x50 x51 x52 HTj y1 y2 y3 l5 ks
            have hownz := own_below hownj z.h
            have kz3 := kq3.keep z.h
            have kz5 := kq5.keep z.h
            have Bz := hbelq.trans (z.h.mono hbelq.size)
            have hrz := hrs.below Bz
            have hlz := Bz.size
            have hgz : g0 ≤ z.w.heap.size := Nat.le_trans hgq z.h.size
            have nc2 : ¬ c' = 64 * j + 24 := by omega
            have ks : ∀ wx, (Instr.slice 25 (.slice (some ⟨b', o', none⟩) 128 c') (some (.int .i64 (64 * (j : Int) + 24))) (some (.int .i64 (64 * (j : Int) + 64))) none).run Tryd.prog wx = .ok (.slice (some ⟨b', o' + (64 * j + 24), none⟩) 40 (c' - (64 * j + 24))) wx := fun wx => by
              have := run_part (P := Tryd.prog) 25 5 Tryd.underlying25 bytesN (some ⟨b', o', none⟩) 128 c' (64 * j + 24) (64 * j + 64) .i64 .i64 (64 * (j : Int) + 24) (64 * (j : Int) + 64) (by omega) (by omega) (by omega) (by omega) wx
              rw [if_neg nc2, show 64 * j + 64 - (64 * j + 24) = 40 by omega] at this
              simpa [add_spot] using this
            have hrj := hrz.sub (64 * j + 24) 40 (by omega)
            clear kq3 kq5 hownj hbelq hrq
            go_wp2_with (at_builtin; refine wp_app _ rfl _ _ 25 rfl g0 5 _ 1 bytesT _ _ _ hownz rfl _ 40 _ _ hrj rfl (byV_one _) (by unfold maxLen; omega) (by omega) (by omega) ?_; intro v3 w6 hown6 hg6 hat6; go_frame)
            have ne3 := fun g hg => (hownz.lt g hg).1
            rw [← List.map_append, List.append_assoc, part_take hsl j hj2, Nat.add_assoc, show 40 * j + 40 = 40 * (j + 1) by omega] at hown6
            have kz3' := kz3.grown hg6 (fun e => by have := ne3 _ e; omega)
            have kz5' := kz5.grown hg6 (fun e => by have := ne3 _ e; omega)
            have B6 := Bz.grown hg6 hlz (fun g hg => Nat.le_trans hgs.1 (ne3 g hg))
            clear ks hrj hownz kz3 kz5 Bz hrz hat6
            go_roundw
            case rel =>
              refine ⟨j + 1, by omega, by go_num, hown6, hid ⟨fun _ => ?_, fun hh => ?_⟩, kz3', kz5', B6, by have := hg6.size; omega⟩
              · rcases Nat.eq_zero_or_pos j with h0 | h0
                · have := HN.out
                  rw [if_pos h0, HQ.out] at this
                  exact this
                · exact HJ.out.1 h0
              · have := HN.out
                rw [if_neg (by omega), HQ.out] at this
                exact this
            case measure => simp [intOf]; omega
          · have HN : Hid (¬ (if j = 0 then s.take 24 else (s.drop 64).take 24) = s0.take 24) := hid (fun hh => hall (HX3.out.2 hh))
            have hy : ((a1 : Int) == (tE s0 : Int)) = false ∨ (((a1 : Int) == (tE s0 : Int)) = true ∧ ((a2 : Int) == (tG s0 : Int)) = false) ∨ (((a1 : Int) == (tE s0 : Int)) = true ∧ ((a2 : Int) == (tG s0 : Int)) = true ∧ ((a3 : Int) == (tL s0 : Int)) = false) := by
              simp only [beq_eq_false_iff_ne, beq_iff_eq]
              omega
            clear HX3 hall
            rcases hy with y1 | ⟨y1, y2⟩ | ⟨y1, y2, y3⟩
            all_goals (
              go_wp2_with fail
              (refine wp_region_ext (by kernel_rfl) (by kernel_rfl) ?_; (repeat (go_big_quiet_step ((go_at_call 55; exact Ext.calls _ (HTj _))))); refine wpQuiet_nil ?_; rintro _ ⟨z, rfl⟩)
              have kz3 := kq3.keep z.h
              have Bz := hbelq.trans (z.h.mono hbelq.size)
              clear x50 x51 x52 HTj l5 ks kq3 kq5 hownj hbelq hrq hgq
              go_wp2_with ((with_reducible refine is_store 95 ?_); refine wp_storeB w.heap.size _ _ tagZ kz3 tagN rfl (by decide) rfl rfl ?_; intro w8 k8 r8; go_frame)
              obtain ⟨e0, e1, e2⟩ := k8.c3
              refine bodyPost_ret (v := .tuple #[.slice none 0 0, .agg tagZ.toArray, .int .i64 0]) (by simp [results, Tryd.results42, go_sem, e0, e1, e2]; rfl) rfl ?_
              rw [HP.out, if_neg]
              · exact ⟨rfl, Bz.grown r8 Bz.size (fun k hk => by cases hk; exact Nat.le_refl _)⟩
              · intro hh
                have := (HI.out.1 hh).1 s (List.mem_of_getElem? (by rw [List.getElem?_take, if_pos hlt]; exact HX.out))
                apply HN.out
                rw [HQ.out]
                split
                · exact this.1
                · exact this.2)
        · obtain rfl : j = 2 := by omega
          rw [List.take_of_length_le (show (part s).length ≤ 40 * 2 by rw [part_len hsl]; omega)] at hownj
          go_wp2_with fail
          go_roundw
          case rel =>
            refine ⟨k + 1, by omega, by go_num, ?_, hid fun x hx => ?_, kq3, kq5, hbelq, hgq⟩
            · rw [parts_succ HX.out, show 80 * (k + 1) = 80 * k + 40 * 2 by omega]
              exact hownj
            · rw [List.take_add_one, HX.out, List.mem_append] at hx
              rcases hx with hx | hx
              · exact HA.out x hx
              · obtain rfl : x = s := by simpa using hx
                exact ⟨HJ.out.1 (by omega), HJ.out.2 (by omega)⟩
          case measure => simp [intOf]; omega
    · obtain rfl : k = K := by omega
      obtain ⟨DD, hDD⟩ : ∃ z, parts (fs.take k) = z := ⟨_, rfl⟩
      rw [hDD] at hown HD HI HPy
      clear hDD HS HR hb hs0
      obtain ⟨Ad, cd, rfl, hrd, hdc, hdm⟩ := own_form hown
      have hrd : RB wr Ad (80 * k) DD := hrd
      by_cases hse : DD.take (L + 8) = sealed (DD.take (L + 4))
      · have hr8 := hrd.pre (k := L + 8) (by omega)
        rw [hse] at hr8
        have hdl : (DD.take (L + 4)).length = L + 4 := by rw [List.length_take, HD.out]; omega
        have R := split_good Ad (L + 4) cd (DD.take (L + 4)) wr (HTb.out.keep hbel) hr8 (by omega) (by omega) hdm hdl
        rw [show L + 4 + 4 = L + 8 from rfl] at R
        have HRR := hid R
        have Hse := hid hse
        clear R hr8 hse
        go_wp2_with fail
        refine HRR.out.mono ?_
        rintro e w6 ⟨v, rfl, hown6, b6⟩
        rw [hdl] at hown6
        obtain ⟨A4, c4, rfl, hr4, h4c, h4m⟩ := own_form hown6
        have hr4 : RB w6 A4 (L + 4) (DD.take (L + 4)) := hr4
        have hs4 : SlR (fun b => w.heap.size < b) w6 ⟨A4, L + 4, c4⟩ (DD.take (L + 4)) := by
          obtain ⟨s, e, hn, hs⟩ := SlR.own (N := fun b => w.heap.size < b) hown6 (fun b hb => by have := kr3.lt; omega)
          obtain ⟨q1, q2, q3⟩ := s
          cases e
          exact hs
        clear hown6 HRR hown
        replace hrd := hrd.below b6
        have k3 := kr3.keep b6
        have k5 := kr5.keep b6
        have B6 := hbel.trans (b6.mono hbel.size)
        clear kr3 kr5 hbel b6 hgr
        have hq := hrd.cut (k := L + 8) (cap := cd) (by omega) hdc
        have kq : ∀ wx, (Instr.slice 25 (.slice Ad (80 * k) cd) (some (.int .i64 ((L : Int) + 8))) none none).run Tryd.prog wx = .ok (.slice (if cd = L + 8 then Ad else Ad.map (·.add (L + 8))) (80 * k - (L + 8)) (cd - (L + 8))) wx := fun wx => run_from (P := Tryd.prog) 25 5 Tryd.underlying25 bytesN Ad (80 * k) cd (L + 8) .i64 ((L : Int) + 8) (by omega) (by omega) wx
        generalize (if cd = L + 8 then Ad else Ad.map (·.add (L + 8))) = A3 at hq kq
        obtain ⟨n3, hn3⟩ : ∃ z, 80 * k - (L + 8) = z := ⟨_, rfl⟩
        rw [hn3] at hq kq HI
        have hn3m : n3 ≤ 8240 := by omega
        go_wp2_with fail
        go_loopw [88] (fun i wz => ∃ j : Nat, j ≤ n3 ∧ i = .int .i64 j ∧ Hid (∀ q, q < j → (DD.drop (L + 8))[q]? = some 0) ∧ wz = w6) (fun i _ => n3 - (intOf i).toNat)
        case atStart => exact ⟨0, Nat.zero_le _, rfl, hid (fun q hq => absurd hq (by omega)), rfl⟩
        case round =>
          obtain ⟨j, hj, rfl, HZ, rfl⟩ := hrel
          by_cases hjn : j < n3
          · obtain ⟨b7, o7, x7, rfl, hb7, hx7, hcell7⟩ := hq.at hjn
            have HX := hid hx7
            clear hx7
            by_cases hz : x7 = 0
            · have y1 : N8 x7 = 0 := by rw [hz]; rfl
              have HZ7 := hid hz
              clear hz
              go_wp2_with fail
              go_roundw
              case rel =>
                refine ⟨j + 1, by omega, by go_num, hid fun q hq => ?_, trivial⟩
                rcases Nat.lt_succ_iff_lt_or_eq.1 hq with h | rfl
                · exact HZ.out q h
                · rw [HX.out, HZ7.out]
              case measure => simp [intOf]; omega
            · have y0 : N8 x7 ≠ 0 := fun h => hz (N8_inj (h.trans (show (0 : Int) = N8 0 from rfl)))
              have y1 : (N8 x7 != 0) = true := by rw [bne_iff_ne]; exact y0
              have HZ7 := hid hz
              clear hz
              go_wp2_with ((with_reducible refine is_store 95 ?_); refine wp_storeB w.heap.size _ _ tagZ k3 tagN rfl (by decide) rfl rfl ?_; intro w8 k8 r8; go_frame)
              obtain ⟨e0, e1, e2⟩ := k8.c3
              refine bodyPost_ret (v := .tuple #[.slice none 0 0, .agg tagZ.toArray, .int .i64 0]) (by simp [results, Tryd.results42, go_sem, e0, e1, e2]; rfl) rfl ?_
              rw [HP.out, if_neg]
              · exact ⟨rfl, B6.grown r8 B6.size (fun k hk => by cases hk; exact Nat.le_refl _)⟩
              · intro hh
                have := (HI.out.1 hh).2.2
                rw [this, zeroB_at hjn] at HX
                exact HZ7.out (Option.some.inj HX.out).symm
          · obtain rfl : j = n3 := by omega
            have hp : fs.take k = recSecs (tag1 fs) (payl fs) := by
              refine HI.out.2 ⟨HA.out, Hse.out, ?_⟩
              · apply byte_ext
                · rw [List.length_drop, HD.out, zeroB_len, hn3]
                · intro q hq
                  rw [List.length_drop, HD.out] at hq
                  rw [HZ.out q (by omega), zeroB_at (by omega)]
            have HPP := hid (HP.out.trans (if_pos hp))
            clear hp HP HI HZ hjn
            obtain ⟨A5, hA5⟩ : ∃ z, (if c4 = 4 then A4 else A4.map (·.add 4)) = z := ⟨_, rfl⟩
            have kq5 : ∀ wx, (Instr.slice 25 (.slice A4 (L + 4) c4) (some (.int .i64 4)) none none).run Tryd.prog wx = .ok (.slice A5 L (c4 - 4)) wx := fun wx => by
              have := run_from (P := Tryd.prog) 25 5 Tryd.underlying25 bytesN A4 (L + 4) c4 4 .i64 4 rfl (by omega) wx
              rw [hA5, show L + 4 - 4 = L by omega] at this
              exact this
            have hp4 : (DD.take (L + 4)).drop 4 = (DD.drop 4).take L := by rw [List.drop_take, show L + 4 - 4 = L by omega]
            have hs5 : SlR (fun b => w.heap.size < b) wr ⟨A5, L, c4 - 4⟩ ((DD.take (L + 4)).drop 4) := by
              have h0 := hs4.rb.cut (k := 4) (cap := c4) (by show 4 ≤ L + 4; omega) h4c
              rw [hA5, show L + 4 - 4 = L by omega] at h0
              refine ⟨⟨h0, fun b o hb hl => ?_⟩, by show L ≤ c4 - 4; omega, by show c4 - 4 ≤ _; omega⟩
              dsimp only at hb hl
              rw [← hA5] at hb
              split at hb
              · exact hs4.r.2 b o hb (by show 0 < L + 4; omega)
              · cases A4 with
                | none => cases hb
                | some ad =>
                  obtain ⟨q1, q2, q3⟩ := ad
                  have hq1 : q1 = b := by
                    simp only [Option.map_some, Option.some.injEq] at hb
                    have := congrArg Addr.block hb
                    unfold Addr.add at this
                    split at this <;> simpa using this
                  have hn := hs4.rb.at (k := 0) (by show 0 < L + 4; omega)
                  obtain ⟨b9, o9, x9, e9, _⟩ := hn
                  cases e9
                  subst hq1
                  exact hs4.r.2 q1 _ rfl (by show 0 < L + 4; omega)
            clear hq kq hr4 hs4 hA5 hrd
            have l5 := k5.lt
            have l3 := k3.lt
            have f3 := k3.fz
            obtain ⟨x0, x1, x2⟩ := k5.c3
            obtain ⟨y0, y1, y2⟩ := k3.c3
            go_wp2_with fail
            go_region
            obtain ⟨kk, rr⟩ := set3 k3 rfl (Value.int .u64 (tE s0)) (Value.int .u64 (tG s0)) (Value.int .u64 (tL s0))
            clear x0 x1 x2 y0 y1 y2 f3
            generalize ((wr.setCell ⟨w.heap.size, 0, none⟩ (Value.int .u64 (tE s0))).setCell ⟨w.heap.size, 1, none⟩ (Value.int .u64 (tG s0))).setCell ⟨w.heap.size, 2, none⟩ (Value.int .u64 (tL s0)) = w8 at kk rr ⊢
            obtain ⟨e0, e1, e2⟩ := (show Blk w8.drew _ _ _ from kk).c3
            go_wp2_with fail
            refine bodyPost_ret (v := .tuple #[.slice A5 L (c4 - 4), tagV s0, .int .i64 k]) (by simp [results, Tryd.results42, go_sem, e0, e1, e2]; rfl) rfl ?_
            rw [HPP.out]
            refine ⟨⟨A5, L, c4 - 4⟩, ?_, ?_, (B6.grown rr B6.size (fun k hk => by cases hk; exact Nat.le_refl _)).drew⟩
            · rw [← HQ.out, tagV_take]
              rfl
            · rw [HPy.out, ← hp4]
              exact ((hs5.grown rr (fun g hg hN => by cases hg; omega)).keep (Below.refl _ _).drew).mono fun b hb => Nat.le_of_lt hb
      · have hr8 := hrd.pre (k := L + 8) (by omega)
        have hbad : (DD.take (L + 8)).drop (L + 4) ≠ sumBytes (Crc.crc ((DD.take (L + 8)).take (L + 4))) := by
          intro hh
          apply hse
          rw [List.take_take, Nat.min_eq_left (by omega)] at hh
          have := List.take_append_drop (L + 4) (DD.take (L + 8))
          rw [hh, List.take_take, Nat.min_eq_left (by omega)] at this
          exact this.symm
        have R := split_bad Ad (L + 4) cd (DD.take (L + 8)) wr (HTb.out.keep hbel) hr8 (by omega) hdm hbad
        rw [show L + 4 + 4 = L + 8 from rfl] at R
        have HRR := hid R
        have HSE := hid hse
        clear R hr8 hse hbad
        go_wp2_with fail
        refine HRR.out.mono ?_
        rintro e w6 ⟨rfl, b6⟩
        have k3 := kr3.keep b6
        have B6 := hbel.trans (b6.mono hbel.size)
        clear kr3 kr5 hbel b6 hgr HRR hown hrd
        go_wp2_with ((with_reducible refine is_store 95 ?_); refine wp_storeB w.heap.size _ _ tagZ k3 tagN rfl (by decide) rfl rfl ?_; intro w8 k8 r8; go_frame)
        obtain ⟨e0, e1, e2⟩ := k8.c3
        refine bodyPost_ret (v := .tuple #[.slice none 0 0, .agg tagZ.toArray, .int .i64 0]) (by simp [results, Tryd.results42, go_sem, e0, e1, e2]; rfl) rfl ?_
        rw [HP.out, if_neg]
        · exact ⟨rfl, B6.grown r8 B6.size (fun k hk => by cases hk; exact Nat.le_refl _)⟩
        · intro hh
          exact HSE.out (HI.out.1 hh).2.1
/-- intact, at every slice of sectors that is not empty -/
theorem intact_any (A : Option Addr) (n c : Nat) (fs : List (List UInt8)) (w : World) (hT : Tab w) (h : SecL w A n fs) (h1 : 1 ≤ n) (hnc : n ≤ c) (hcm : c ≤ 9223372036854775807) :
    Calls Tryd.prog 42 #[.slice A n c] w fun e w' => intactE (intactP fs) e w w' := by
  by_cases hq : 8192 < recLen fs ∨ n < cnt (recLen fs)
  · exact intact_no A n c fs w h h1 hnc hcm hq
  · exact intact_go A n c fs w hT h h1 hnc hcm (by omega) (by omega)
end Go.Proofs.YtlokfndonjldpaaDoor

