/- record of package wal, walked. Conditions: the payload reads; the table of remainders is laid. -/
import Derived.Test.YtlokfndonjldpaaDoorHdr
import Derived.Test.YtlokfndonjldpaaDoorLatest
import Derived.Test.YtlokfndonjldpaaDoorDraw
set_option linter.unusedSimpArgs false
set_option linter.unusedVariables false
namespace Go.Proofs.YtlokfndonjldpaaDoor
open Go.RowKit

theorem recSecs_flat (t d : List UInt8) : ∀ k, ((List.range k).map (recSec t d)).flatten = (List.range (2 * k)).flatMap (halfR t d)
  | 0 => rfl
  | k + 1 => by
    rw [List.range_succ, List.map_append, List.flatten_append, recSecs_flat t d k, show 2 * (k + 1) = 2 * k + 1 + 1 by omega, List.range_succ, List.range_succ, List.flatMap_append, List.flatMap_append]
    simp [recSec]
theorem arr40 : ArrT Tryd.prog 130 ((zeroB 40).map byV) := by
  unfold ArrT
  kernel_rfl
theorem sl_cut {N : Nat → Prop} {w : World} {A : Option Addr} {n c k : Nat} {l : List UInt8} (h : SlR N w ⟨A, n, c⟩ l) (hk : k ≤ n) : SlR N w ⟨if c = k then A else A.map (·.add k), n - k, c - k⟩ (l.drop k) := by
  have hnc := h.nc
  have hcm := h.cm
  dsimp only at hnc hcm
  refine ⟨⟨?_, fun b o hb hl => ?_⟩, by show n - k ≤ c - k; omega, by show c - k ≤ _; omega⟩
  · have := h.r.1.cut hk hnc
    rw [Nat.mul_one, ← List.map_drop] at this
    exact this
  · dsimp only at hb hl
    split at hb
    · exact h.r.2 b o hb (by show 0 < n; omega)
    · cases A with
      | none => cases hb
      | some ad =>
        obtain ⟨q1, q2, q3⟩ := ad
        have hq1 : q1 = b := by
          simp only [Option.map_some, Option.some.injEq] at hb
          have := congrArg Addr.block hb
          unfold Addr.add at this
          split at this <;> simpa using this
        have hn := h.rb.at (k := 0) (by show 0 < n; omega)
        obtain ⟨b9, o9, x9, e9, _⟩ := hn
        cases e9
        subst hq1
        exact h.r.2 q1 _ rfl (by show 0 < n; omega)
/-- what is copied of the data, and zeros -/
theorem part_of (S : List UInt8) (m j : Nat) : (S.drop (40 * j)).take (min (S.length - 40 * j) 40) ++ zeroB (40 - min (S.length - 40 * j) 40) = ((S ++ zeroB m).drop (40 * j)).take 40 ∨ S.length + m < 40 * (j + 1) := by
  by_cases h : S.length + m < 40 * (j + 1)
  · exact .inr h
  · left
    rw [List.drop_append, List.take_append]
    have e1 : (S.drop (40 * j)).take (min (S.length - 40 * j) 40) = (S.drop (40 * j)).take 40 := by
      rcases Nat.le_total (S.length - 40 * j) 40 with h1 | h1
      · rw [Nat.min_eq_left h1, List.take_of_length_le (by simp), List.take_of_length_le (by simp; omega)]
      · rw [Nat.min_eq_right h1]
    rw [e1]
    congr 1
    rw [drop_zeroB]
    unfold zeroB
    rw [List.take_replicate, List.length_drop]
    congr 1
    omega

set_option maxRecDepth 100000 in
set_option maxHeartbeats 4000000 in
theorem record_any (l : Lg) (A : Option Addr) (n c k : Nat) (p : List UInt8) (w : World) (hok : l.ok) (hT : Tab w) (hp : RB w A n p) (hn : n ≤ 8192) (hk : k = cnt n) :
    Calls Tryd.prog 48 #[l.v, .slice A n c, .int .i64 k] w fun e w' => ∃ A' c', e = .returned (.slice A' (128 * k) c') ∧ SlR (fun b => w.heap.size ≤ b) w' ⟨A', 128 * k, c'⟩ (recSecs (tagB l.e l.g l.nx) p).flatten ∧ Below w.heap.size w w' := by
    have HK := hid hk
    have hpn := hp.len
    have hk103 : k ≤ 103 := by rw [hk]; unfold cnt; omega
    have hkr : n + 8 ≤ 80 * k := by rw [hk]; exact cnt_room n
    clear hk
    have HL := hid hpn
    clear hpn
    rw [show l.v = .agg #[.int .i64 l.from_, .int .i64 l.size, .int .u64 l.e, .int .u64 l.g, .int .u64 l.nx, .int .i64 l.at_] from rfl]
    go_enter Tryd.func48, Tryd.ntmps48
    go_wp2_with fail
    have hP : Blk (w.alloc (.cells #[.int .i64 l.from_, .int .i64 l.size, .int .u64 l.e, .int .u64 l.g, .int .u64 l.nx, .int .i64 l.at_] 44)) w.heap.size 44 [.int .i64 l.from_, .int .i64 l.size, .int .u64 l.e, .int .u64 l.g, .int .u64 l.nx, .int .i64 l.at_] := Blk.new w _ _
    have hB : Below w.heap.size w (w.alloc (.cells #[.int .i64 l.from_, .int .i64 l.size, .int .u64 l.e, .int .u64 l.g, .int .u64 l.nx, .int .i64 l.at_] 44)) := (Below.refl _ _).alloc (Nat.le_refl _) _
    have hS : (w.alloc (.cells #[.int .i64 l.from_, .int .i64 l.size, .int .u64 l.e, .int .u64 l.g, .int .u64 l.nx, .int .i64 l.at_] 44)).heap.size = w.heap.size + 1 := by simp
    generalize (w.alloc (.cells #[.int .i64 l.from_, .int .i64 l.size, .int .u64 l.e, .int .u64 l.g, .int .u64 l.nx, .int .i64 l.at_] 44)) = w1 at hP hB hS ⊢
    refine (number_any n (by omega) w1).mono ?_
    rintro e w2 ⟨rfl, b2⟩
    have kl := hP.keep b2
    have B := hB.trans (b2.mono hB.size)
    have hw1 : w1.heap.size ≤ w2.heap.size := b2.size
    clear hP hB b2
    go_wp2_with (first
      | ((with_reducible refine is_alloc 126 ?_); refine wp_allocB (w := w2) _ arr8 ?_; intro w3 k3 b3 s3; go_frame)
      | ((with_reducible refine is_store 126 ?_); refine wp_storeB w2.heap.size _ _ ((le 8 n).map byV) k3 (arr8n.trans (by simp)) (by simp) (byV_one _) rfl rfl ?_; intro w4 k4 r4; go_frame; have B4 := (B.trans (b3.mono B.size)).grown r4 (B.trans (b3.mono B.size)).size (fun q hq => by cases hq; exact B.size); have kl4 := (kl.keep b3).grown r4 (by have := kl.lt; simp; omega))
      | (at_make; refine wp_make0 _ rfl _ _ 25 rfl w4.heap.size 5 _ 1 bytesT .i64 .i64 _ (80 * k) rfl rfl (by omega) (by omega) (by unfold maxLen; omega) (Nat.le_refl _) ?_; intro w5 hown5 r5; go_frame; have k5 := Blk.grown k4 r5 (by intro h; cases h); have h4 : RB w5 (some ⟨w2.heap.size, 0, none⟩) 4 (le 4 n) := (by have := (show BlkB w5 w2.heap.size 126 (le 8 n) from k5).rb 0 4 (by simp); rwa [List.drop_zero, le_take 4 8 _ (by omega)] at this))
      | (at_builtin; refine wp_app _ rfl _ _ 25 rfl w4.heap.size 5 _ 1 bytesT _ _ _ hown5 rfl _ 4 _ _ h4 rfl (byV_one _) (by unfold maxLen; omega) (by omega) r5.size ?_; intro v6 w6 hown6 r6 a6; go_frame; have B6 := (B4.grown r5 B4.size (fun q hq => by cases hq)).grown r6 (by have := B4.size; have := r5.size; omega) (fun g hg => by have := (hown5.lt g hg).1; have := B4.size; omega); have hp6 := hp.below B6)
      | (at_builtin; refine wp_app _ rfl _ _ 25 rfl w4.heap.size 5 _ 1 bytesT _ _ _ hown6 rfl _ _ _ _ hp6 rfl (byV_one _) (by unfold maxLen; omega) (by omega) (by have := r5.size; have := r6.size; omega) ?_; intro v7 w7 hown7 r7 a7; go_frame))
    have kl5 := kl4.grown r5 (by intro h; cases h)
    have B5 := B4.grown r5 B4.size (fun q hq => by cases hq)
    have g24 : w2.heap.size < w4.heap.size := k4.lt
    have kl6 := kl5.grown r6 (fun hq => by have := (hown5.lt _ hq).1; have := B4.size; have := kl4.lt; omega)
    have kl7 := kl6.grown r7 (fun hq => by have := (hown6.lt _ hq).1; have := kl4.lt; omega)
    have B7 := B6.grown r7 B6.size (fun g hg => by have := (hown6.lt g hg).1; have := B4.size; omega)
    rw [List.nil_append, ← List.map_append, Nat.zero_add] at hown7
    obtain ⟨A7, c7, rfl, hr7, _, _⟩ := own_form hown7
    have hr7 : RB w7 A7 (4 + n) (le 4 n ++ p) := hr7
    obtain ⟨S, hS⟩ : ∃ z, sealed (le 4 n ++ p) = z := ⟨_, rfl⟩
    have hSl : S.length = n + 8 := by rw [← hS, sealed_len, List.length_append, le_len, HL.out]; omega
    have HS := hid hS
    have R := append_any A7 (4 + n) c7 (le 4 n ++ p) w7 (hT.below B7 hT.pos) hr7 (by omega)
    rw [hS, hSl] at R
    clear hS kl kl4 kl5 kl6 k4 k5 hown5 hown6 hown7 r4 r5 r6 r7 a6 a7 h4 hp6 hr7 B4 B5 B6 b3 k3 B
    refine R.mono ?_
    clear R
    rintro e w8 ⟨v8, rfl, hown8, b8⟩
    obtain ⟨A8, c8, rfl, hr8, h8c, h8m⟩ := own_form hown8
    have hs8 : SlR (fun b => b < w8.heap.size) w8 ⟨A8, n + 8, c8⟩ S := ((⟨RN.all hr8, h8c, h8m⟩ : SlR (fun _ => True) w8 ⟨A8, n + 8, c8⟩ S).lt).mono (fun b hb => hb.2)
    have kl := kl7.keep b8
    have B := B7.trans (b8.mono B7.size)
    clear hown8 b8 kl7 B7
    go_wp2_with fail
    have c2' : ∀ (x : Ext w8) (y : Ext x.w), y.w.cell? ⟨w.heap.size, 2, none⟩ = some (.int .u64 l.e) := fun x y => Ext.cell (Ext.cell (kl.cell 2) x) y
    have c3' : ∀ (x : Ext w8) (y : Ext x.w), y.w.cell? ⟨w.heap.size, 3, none⟩ = some (.int .u64 l.g) := fun x y => Ext.cell (Ext.cell (kl.cell 3) x) y
    have c4' : ∀ (x : Ext w8) (y : Ext x.w), y.w.cell? ⟨w.heap.size, 4, none⟩ = some (.int .u64 l.nx) := fun x y => Ext.cell (Ext.cell (kl.cell 4) x) y
    let X : Value → Prop := fun u => ∃ g, w8.heap.size ≤ g ∧ u = .pointer (some ⟨g, 0, none⟩)
    refine wp_region_tailU 12 (fun k => ([(fun u => u = .pointer (some ⟨w.heap.size, 2, none⟩)), (fun u => u = .int .u64 l.e), (fun u => u = .agg ((le 8 l.e).map byV).toArray),
      (fun u => u = .pointer (some ⟨w.heap.size, 3, none⟩)), (fun u => u = .int .u64 l.g), (fun u => u = .agg ((le 8 l.g).map byV).toArray),
      (fun u => u = .pointer (some ⟨w.heap.size, 4, none⟩)), (fun u => u = .int .u64 l.nx), (fun u => u = .agg ((le 8 l.nx).map byV).toArray), X, X, X] : List (Value → Prop)).getD k (fun _ => True))
      (Ptrs w8.heap.size [(9, 126), (10, 126), (11, 126)] (fun _ => (List.replicate 8 0).map byV)) (by kernel_rfl) (by kernel_rfl) ?_ ?_ ?_
    · intro o ho
      refine pres_ptr (Nat.le_refl _) ?_ ?_
      · intro x hx
        simp only [List.mem_cons, List.not_mem_nil, or_false] at hx
        rcases hx with rfl | rfl | rfl <;> exact arr8
      · revert o ho
        exact List.all_eq_true.1 (by kernel_rfl)
    · refine Ptrs.start ?_
      intro x hx
      simp only [List.mem_cons, List.not_mem_nil, or_false] at hx
      rcases hx with rfl | rfl | rfl <;> rfl
    · simp only [List.take_succ_cons, List.take_zero]
      (refine wpU_quiet ((.pointer (some ⟨w.heap.size, 2, none⟩))) rfl (of_decide_eq_true (by kernel_rfl)) rfl (fun _ => ?_); go_big_quiet_step ((fail)); refine wpQuiet_nil ⟨rfl, ?_⟩)
      (refine wpU_quiet ((.int .u64 l.e)) rfl (of_decide_eq_true (by kernel_rfl)) rfl (fun _ => ?_); go_big_quiet_step ((fail)); refine wpQuiet_nil ⟨rfl, ?_⟩)
      (refine wpU_quiet ((.agg ((le 8 l.e).map byV).toArray)) rfl (of_decide_eq_true (by kernel_rfl)) rfl (fun _ => ?_); go_big_quiet_step ((exact Ext.calls _ (number_any _ hok.e _))); refine wpQuiet_nil ⟨rfl, ?_⟩)
      (refine wpU_quiet ((.pointer (some ⟨w.heap.size, 3, none⟩))) rfl (of_decide_eq_true (by kernel_rfl)) rfl (fun _ => ?_); go_big_quiet_step ((fail)); refine wpQuiet_nil ⟨rfl, ?_⟩)
      (refine wpU_quiet ((.int .u64 l.g)) rfl (of_decide_eq_true (by kernel_rfl)) rfl (fun _ => ?_); go_big_quiet_step ((fail)); refine wpQuiet_nil ⟨rfl, ?_⟩)
      (refine wpU_quiet ((.agg ((le 8 l.g).map byV).toArray)) rfl (of_decide_eq_true (by kernel_rfl)) rfl (fun _ => ?_); go_big_quiet_step ((exact Ext.calls _ (number_any _ hok.g _))); refine wpQuiet_nil ⟨rfl, ?_⟩)
      (refine wpU_quiet ((.pointer (some ⟨w.heap.size, 4, none⟩))) rfl (of_decide_eq_true (by kernel_rfl)) rfl (fun _ => ?_); go_big_quiet_step ((fail)); refine wpQuiet_nil ⟨rfl, ?_⟩)
      (refine wpU_quiet ((.int .u64 l.nx)) rfl (of_decide_eq_true (by kernel_rfl)) rfl (fun _ => ?_); go_big_quiet_step ((fail)); refine wpQuiet_nil ⟨rfl, ?_⟩)
      (refine wpU_quiet ((.agg ((le 8 l.nx).map byV).toArray)) rfl (of_decide_eq_true (by kernel_rfl)) rfl (fun _ => ?_); go_big_quiet_step ((exact Ext.calls _ (number_any _ hok.n _))); refine wpQuiet_nil ⟨rfl, ?_⟩)
      refine wpU_alloc _ arr8 rfl (fun g4 hg4 => ?_)
      refine wpU_alloc _ arr8 rfl (fun g5 hg5 => ?_)
      refine wpU_alloc _ arr8 rfl (fun g6 hg6 => ?_)
      intro w9 hB9 hΦ
      obtain ⟨p4, hp4, hq4, hz4⟩ := (hΦ.each (9, 126) (by simp)).resolve_left (by intro h; cases h)
      cases hq4
      obtain ⟨p5, hp5, hq5, hz5⟩ := (hΦ.each (10, 126) (by simp)).resolve_left (by intro h; cases h)
      cases hq5
      obtain ⟨p6, hp6, hq6, hz6⟩ := (hΦ.each (11, 126) (by simp)).resolve_left (by intro h; cases h)
      cases hq6
      have n45 : g4 ≠ g5 := fun h => hΦ.apart (9, 126) (by simp) (10, 126) (by simp) (by decide) g4 rfl (by rw [h]; rfl)
      have n46 : g4 ≠ g6 := fun h => hΦ.apart (9, 126) (by simp) (11, 126) (by simp) (by decide) g4 rfl (by rw [h]; rfl)
      have n56 : g5 ≠ g6 := fun h => hΦ.apart (10, 126) (by simp) (11, 126) (by simp) (by decide) g5 rfl (by rw [h]; rfl)
      clear hΦ X c2' c3' c4'
      simp only [List.drop_succ_cons, List.drop_zero]
      have hB8 := B.size
      replace B := B.trans (hB9.mono B.size)
      replace hs8 := hs8.keep hB9
      refine wp_storeB g4 _ _ _ hz4 (arr8n.trans (by simp)) (by simp) (byV_one _) rfl rfl (fun w3 k4 r3 => ?_)
      have hz5' := hz5.grown r3 (by simpa using n45)
      have hz6' := hz6.grown r3 (by simpa using n46)
      have B3 := B.grown r3 B.size (fun g hg => by cases hg; omega)
      have hs3 := hs8.grown r3 (fun g hg hN => by cases hg; omega)
      clear hz4 hz5 hz6 B hs8
      refine wp_storeB g5 _ _ _ hz5' (arr8n.trans (by simp)) (by simp) (byV_one _) rfl rfl (fun w4 k5 r4 => ?_)
      have k4' := k4.grown r4 (by simpa using n45.symm)
      have hz6'' := hz6'.grown r4 (by simpa using n56)
      have B4 := B3.grown r4 B3.size (fun g hg => by cases hg; omega)
      have hs4 := hs3.grown r4 (fun g hg hN => by cases hg; omega)
      clear hz5' hz6' k4 B3 hs3
      refine wp_storeB g6 _ _ _ hz6'' (arr8n.trans (by simp)) (by simp) (byV_one _) rfl rfl (fun w5 k6 r5 => ?_)
      have q4 : BlkB w5 g4 126 (le 8 l.e) := k4'.grown r5 (by simpa using n46.symm)
      have q5 : BlkB w5 g5 126 (le 8 l.g) := k5.grown r5 (by simpa using n56.symm)
      have q6 : BlkB w5 g6 126 (le 8 l.nx) := k6
      have B := B4.grown r5 B4.size (fun g hg => by cases hg; omega)
      have hs := hs4.grown r5 (fun g hg hN => by cases hg; omega)
      clear hz6'' k4' k5 k6 r3 r4 r5 B4 hs4 hB9 n45 n46 n56
      go_frame
      go_wp2_with (at_make; refine wp_make0 _ rfl _ _ 25 rfl w5.heap.size 5 _ 1 bytesT .i64 .i64 _ (128 * k) rfl rfl (by omega) (by omega) (by unfold maxLen; omega) (Nat.le_refl _) ?_; intro w10 hown10 r10; go_frame)
      have l456 := And.intro (Blk.lt q4) (And.intro (Blk.lt q5) (Blk.lt q6))
      replace q4 : BlkB w10 g4 126 (le 8 l.e) := Blk.grown q4 r10 (by intro h; cases h)
      replace q5 : BlkB w10 g5 126 (le 8 l.g) := Blk.grown q5 r10 (by intro h; cases h)
      replace q6 : BlkB w10 g6 126 (le 8 l.nx) := Blk.grown q6 r10 (by intro h; cases h)
      have hwg := B.size
      replace B := B.grown r10 B.size (fun g hg => by cases hg)
      replace hs := (hs.lt.mono (N' := fun b => b < w5.heap.size) (fun b hb => hb.2)).grown r10 (fun g hg => by cases hg)
      have hg10 : w5.heap.size ≤ w10.heap.size := r10.size
      generalize w5.heap.size = g0 at *
      clear r10
      obtain ⟨d, hd⟩ : ∃ z, recData p = z := ⟨_, rfl⟩
      have HD : Hid (∀ j, j < 2 * k → (S.drop (40 * j)).take (min (n + 8 - 40 * j) 40) ++ zeroB (40 - min (n + 8 - 40 * j) 40) = (d.drop (40 * j)).take 40) := by
        intro j hj
        have h1 := part_of S (80 * cnt n - (n + 8)) j
        rw [hSl] at h1
        rw [h1.resolve_right (by rw [← HK.out]; omega), ← hd, ← HS.out]
        unfold recData
        rw [HL.out]
      have HDD := hid hd
      clear hd
      go_loopw [8, 12, 43] (fun dv ov i wr => ∃ (j : Nat) (Ad : Option Addr) (cd : Nat), j ≤ 2 * k ∧ i = .int .i64 j ∧ dv = .slice Ad (n + 8 - 40 * j) cd ∧ SlR (fun b => b < g0) wr ⟨Ad, n + 8 - 40 * j, cd⟩ (S.drop (40 * j)) ∧ wr.ownsRow g0 5 1 ov (64 * j) (((List.range j).flatMap (halfR (tagB l.e l.g l.nx) d)).map byV) ∧
        BlkB wr g4 126 (le 8 l.e) ∧ BlkB wr g5 126 (le 8 l.g) ∧ BlkB wr g6 126 (le 8 l.nx) ∧ Below w.heap.size w wr ∧ g0 ≤ wr.heap.size) (fun _ _ i _ => 2 * k - (intOf i).toNat)
      case atStart => exact ⟨0, A8, c8, Nat.zero_le _, rfl, rfl, hs, hown10, q4, q5, q6, B, hg10⟩
      case round =>
        obtain ⟨j, Ad, cd, hj, rfl, rfl, hsd, hown, q4', q5', q6', hbel, hgr⟩ := hrel
        clear hs hown10 q4 q5 q6 B hg10
        by_cases hlt : j < 2 * k
        · have HDj := hid (HD.out j hlt)
          obtain ⟨rd, hrd⟩ : ∃ z, n + 8 - 40 * j = z := ⟨_, rfl⟩
          rw [hrd] at hsd HDj
          simp only [hrd]
          obtain ⟨m, hm⟩ : ∃ z, min rd 40 = z := ⟨_, rfl⟩
          rw [hm] at HDj
          have hm1 : m ≤ rd := by omega
          have hm2 : m ≤ 40 := by omega
          have hrd1 : n + 8 - 40 * (j + 1) = rd - m := by omega
          have hdm : (S.drop (40 * j)).drop m = S.drop (40 * (j + 1)) := by
            rw [List.drop_drop]
            rcases Nat.lt_or_ge rd 40 with h | h
            · rw [List.drop_eq_nil_of_le (by omega), List.drop_eq_nil_of_le (by omega)]
            · congr 1; omega
          have hdc := hsd.nc
          have hdcm := hsd.cm
          dsimp only at hdc hdcm
          obtain ⟨A2, hA2⟩ : ∃ z, (if cd = m then Ad else Ad.map (·.add m)) = z := ⟨_, rfl⟩
          have ks : ∀ wx, (Instr.slice 25 (.slice Ad rd cd) (some (.int .i64 (m : Int))) none none).run Tryd.prog wx = .ok (.slice A2 (rd - m) (cd - m)) wx := fun wx => by
            have := run_from (P := Tryd.prog) 25 5 Tryd.underlying25 bytesN Ad rd cd m .i64 (m : Int) rfl (by omega) wx
            rwa [hA2] at this
          have no : ∀ g, u12.ownBlock = some g → g0 ≤ g := fun g hg => (hown.lt g hg).1
          go_wp2_with (first
            | (at_builtin; refine wp_app _ rfl _ _ 25 rfl g0 5 _ 1 bytesT _ _ _ hown rfl _ 8 _ _ (q4'.cells (by simp)) rfl (byV_one _) (by unfold maxLen; omega) (by omega) hgr ?_; intro v1 w1 own1 r1 a1; go_frame; have p5 := Blk.grown q5' r1 (fun hq => by have := no _ hq; omega); have p6 := Blk.grown q6' r1 (fun hq => by have := no _ hq; omega); have hg1 : g0 ≤ w1.heap.size := Nat.le_trans hgr r1.size)
            | (at_builtin; refine wp_app _ rfl _ _ 25 rfl g0 5 _ 1 bytesT _ _ _ own1 rfl _ 8 _ _ (BlkB.cells p5 (by simp)) rfl (byV_one _) (by unfold maxLen; omega) (by omega) hg1 ?_; intro v2 w2 own2 r2 a2; go_frame; have p6' := Blk.grown p6 r2 (fun hq => by have := (own1.lt _ hq).1; omega); have hg2 : g0 ≤ w2.heap.size := Nat.le_trans hg1 r2.size)
            | (at_builtin; refine wp_app _ rfl _ _ 25 rfl g0 5 _ 1 bytesT _ _ _ own2 rfl _ 8 _ _ (BlkB.cells p6' (by simp)) rfl (byV_one _) (by unfold maxLen; omega) (by omega) hg2 ?_; intro v3 w3 own3 r3 a3; go_frame; have hg3 : g0 ≤ w3.heap.size := Nat.le_trans hg2 r3.size; have hs3 := ((hsd.grown r1 (fun g hg hN => by have := no _ hg; omega)).grown r2 (fun g hg hN => by have := (own1.lt _ hg).1; omega)).grown r3 (fun g hg hN => by have := (own2.lt _ hg).1; omega))
            | ((with_reducible refine is_alloc 130 ?_); refine wp_allocB (w := w3) _ arr40 ?_; intro w4 k4 b4 s4; go_frame; have hs4 := hs3.keep b4)
            | ((with_reducible refine is_copy ?_); refine wp_copyF w3.heap.size 0 40 40 _ _ [] 40 k4 rfl bytesT.1 bytesN Ad rd cd (S.drop (40 * j)) hs4.rb rfl rfl (Nat.le_refl _) ?_; intro w5 k5 r5; go_frame; rw [hm] at k5 ⊢; have k5' : BlkB w5 w3.heap.size 130 ((d.drop (40 * j)).take 40) := (by have := k5; rwa [List.nil_append, HDj.out] at this); have own5 := (own_below own3 b4).kept r5 (.inr (fun hq => by have := (own3.lt _ hq).2; omega)); have h40 : ((d.drop (40 * j)).take 40).length = 40 := (by have := BlkB.cells k5 (n := 40) (by simp [zeroB_len]; have := hsd.len; simp at this; omega); rw [List.nil_append, HDj.out] at this; exact this.len))
            | (at_builtin; refine wp_app _ rfl _ _ 25 rfl g0 5 _ 1 bytesT _ _ _ own5 rfl _ 40 _ _ (k5'.cells h40) rfl (byV_one _) (by unfold maxLen; omega) (by omega) (by have := b4.size; have := r5.size; omega) ?_; intro v6 w6 own6 r6 a6; go_frame))
          have hs6 := sl_cut ((hs4.grown r5 (fun g hg hN => by cases hg; omega)).grown r6 (fun g hg hN => by have := (own5.lt _ hg).1; omega)) hm1
          rw [hA2, hdm] at hs6
          have chain : ∀ g, g < g0 → BlkB wr g 126 (le 8 l.e) ∨ True → ∀ x, BlkB wr g 126 x → BlkB w6 g 126 x := fun g hg _ x hx =>
            Blk.grown (Blk.grown (Blk.keep (Blk.grown (Blk.grown (Blk.grown hx r1 (fun hq => by have := no _ hq; omega)) r2 (fun hq => by have := (own1.lt _ hq).1; omega)) r3 (fun hq => by have := (own2.lt _ hq).1; omega)) b4) r5 (by simp; omega)) r6 (fun hq => by have := (own5.lt _ hq).1; omega)
          have q4'' := chain g4 l456.1 (.inr trivial) _ q4'
          have q5'' := chain g5 l456.2.1 (.inr trivial) _ q5'
          have q6'' := chain g6 l456.2.2 (.inr trivial) _ q6'
          have C1 := hbel.grown r1 hbel.size (fun g hg => by have := no g hg; omega)
          have C2 := C1.grown r2 C1.size (fun g hg => by have := (own1.lt g hg).1; omega)
          have C3 := C2.grown r3 C2.size (fun g hg => by have := (own2.lt g hg).1; omega)
          have C4 := C3.trans (b4.mono C3.size)
          have C5 := C4.grown r5 C4.size (fun g hg => by cases hg; omega)
          have C6 := C5.grown r6 C5.size (fun g hg => by have := (own5.lt g hg).1; omega)
          have hg6 : g0 ≤ w6.heap.size := by have := b4.size; have := r5.size; have := r6.size; omega
          have ex : List.map byV ((List.range j).flatMap (halfR (tagB l.e l.g l.nx) d)) ++ List.map byV (le 8 l.e) ++ List.map byV (le 8 l.g) ++ List.map byV (le 8 l.nx) ++ List.map byV ((d.drop (40 * j)).take 40) = ((List.range (j + 1)).flatMap (halfR (tagB l.e l.g l.nx) d)).map byV := by
            rw [List.range_succ, List.flatMap_append, List.map_append]
            simp [halfR, tagB, List.append_assoc]
          rw [ex, show 64 * j + 8 + 8 + 8 + 40 = 64 * (j + 1) by omega] at own6
          have HEX := hid hrd1
          clear chain C1 C2 C3 C4 C5 ex hs3 hs4 hsd own1 own2 own3 own5 r1 r2 r3 r5 r6 a1 a2 a3 a6 b4 s4 k4 k5 k5' h40 q4' q5' q6' hown hbel p5 p6 p6' hg1 hg2 hg3 no ks hdm hA2 hdc hdcm hgr
          go_roundw
          case rel => exact ⟨j + 1, A2, cd - m, by omega, by go_num, by rw [HEX.out], by rw [HEX.out]; exact hs6, own6, q4'', q5'', q6'', C6, hg6⟩
          case measure => simp [intOf]; omega
        · obtain rfl : j = 2 * k := by omega
          obtain ⟨A9, c9, rfl, hr9, h9c, h9m⟩ := own_form hown
          go_wp2_with fail
          go_ret
          have e9 : 64 * (2 * k) = 128 * k := by omega
          refine ⟨A9, c9, by rw [e9]; rfl, ?_, hbel⟩
          unfold recSecs
          rw [recSecs_flat, HL.out, ← HK.out, HDD.out, ← e9]
          exact ⟨RN.own hown (fun b hb => by omega), h9c, h9m⟩
end Go.Proofs.YtlokfndonjldpaaDoor

