/- The law's few and is, walked; bytes.Equal. Conditions: the disk and the reference's disk read. -/
import Derived.Test.YthpalmncfcahkaaPend
import Derived.Test.YthpalmncfcahkaaRefSC
set_option linter.unusedSimpArgs false
set_option linter.unusedVariables false
namespace Go.Proofs.Ythpalmncfcahkaa
open Go.RowKit

theorem equal_any (A B : Option Addr) (n c m d : Nat) (l r : List UInt8) (w : World) (ha : RB w A n l) (hb : RB w B m r) :
    Calls Try.prog 13 #[.slice A n c, .slice B m d] w fun e w' => e = .returned (.bool (l == r)) ∧ w = w' := by
  have k1 := run_str ha 31 9 5 c Try.underlying31 Try.underlying5 Try.underlying9
  have k2 := run_str hb 31 9 5 d Try.underlying31 Try.underlying5 Try.underlying9
  go_enter Try.func13, Try.ntmps13
  go_wp2_with fail
  go_ret
  exact ⟨rfl, rfl⟩
theorem equal_same (A B : Option Addr) (n c m d : Nat) (l : List UInt8) (w : World) (ha : RB w A n l) (hb : RB w B m l) :
    Calls Try.prog 13 #[.slice A n c, .slice B m d] w fun e w' => e = .returned (.bool true) ∧ w = w' := by
  have := equal_any A B n c m d l l w ha hb
  rwa [show (l == l) = true from beq_self_eq_true l] at this

theorem few_yes (n : Nat) (A : Option Addr) (m c : Nat) (w : World) (h1 : 1 ≤ n) (h2 : n ≤ 12) (h3 : m ≤ 60) :
    Calls Try.prog 18 #[.int .i64 n, .slice A m c] w fun e w' => e = .returned (.bool true) ∧ w = w' := by
  have t1 : (n : Int) ≥ 1 := by omega
  have t2 : (n : Int) ≤ 12 := by omega
  have t3 : (m : Int) ≤ 60 := by omega
  go_enter Try.func18, Try.ntmps18
  go_wp2_with fail
  go_ret
  exact ⟨rfl, rfl⟩
theorem few_no (n : Int) (A : Option Addr) (m c : Nat) (w : World) (h : n < 1 ∨ 12 < n ∨ 60 < m) :
    Calls Try.prog 18 #[.int .i64 n, .slice A m c] w fun e w' => e = .returned (.bool false) ∧ w = w' := by
  by_cases h1 : n < 1
  · have t1 : decide ((1 : Int) ≤ n) = false := by simp; omega
    clear h
    go_enter Try.func18, Try.ntmps18
    go_wp2_with fail
    go_ret
    exact ⟨rfl, rfl⟩
  · have t1 : n ≥ 1 := by omega
    by_cases h2 : 12 < n
    · have t2 : decide (n ≤ (12 : Int)) = false := by simp; omega
      clear h
      go_enter Try.func18, Try.ntmps18
      go_wp2_with fail
      go_ret
      exact ⟨rfl, rfl⟩
    · have t2 : n ≤ 12 := by omega
      have t3 : decide ((m : Int) ≤ (60 : Int)) = false := by simp; omega
      clear h
      go_enter Try.func18, Try.ntmps18
      go_wp2_with fail
      go_ret
      exact ⟨rfl, rfl⟩

set_option maxRecDepth 100000 in
set_option maxHeartbeats 2000000 in
theorem is_any (N : Nat → Prop) (d : DV) (x : Rv) (D : Dk) (w : World) (hd : DkV w d D) (hx : RefV N w x D) :
    Calls Try.prog 20 #[d.v, x.v] w fun e w' => e = .returned (.bool true) ∧ Below w.heap.size w w' := by
  have hn := hd.hn
  have hSn := hx.s.e
  have hWn : x.W.n = D.W.length := by rw [hx.w.e, List.length_reverse]
  have hdn := hd.n
  have hdm := hd.m
  have HX := hid hx
  have HD := hid hd
  have hSc := hx.s.nc
  have hSm := hx.s.cm
  have hWc := hx.w.nc
  have hWm := hx.w.cm
  clear hx hd
  rw [show d.v = Value.agg #[.int .i64 d.n, .pointer d.s, .pointer d.c, .pointer d.l, .int .i64 d.m] from rfl]
  obtain ⟨⟨SA, Sn, Sc⟩, ⟨WA, Wn, Wc⟩⟩ := x
  dsimp only at *
  have t1 : ((d.n : Int) != (Sn : Int)) = false := by rw [bne_eq_false_iff_eq]; omega
  have t2 : ((d.m : Int) != (Wn : Int)) = false := by rw [bne_eq_false_iff_eq]; omega
  have HN := hid (show Sn = D.n ∧ d.n = D.n from ⟨hSn, hdn⟩)
  clear hSn hWn hdn hdm
  simp only [Rv.v, Sl.v]
  go_enter Try.func20, Try.ntmps20
  go_wp2_with fail
  generalize hw1 : World.alloc (World.alloc w _) _ = w1
  obtain ⟨kd, kx, hB⟩ := two_boxes_r (cs1 := [.int .i64 d.n, .pointer d.s, .pointer d.c, .pointer d.l, .int .i64 d.m]) (cs2 := [.slice SA Sn Sc, .slice WA Wn Wc]) hw1
  clear hw1
  have g1 : ∀ y : Ext w1, y.w.cell? ⟨w.heap.size, 0, none⟩ = some (.int .i64 d.n) ∧ y.w.cell? ⟨w.heap.size, 1, none⟩ = some (.pointer d.s) ∧ y.w.cell? ⟨w.heap.size, 2, none⟩ = some (.pointer d.c) ∧ y.w.cell? ⟨w.heap.size, 3, none⟩ = some (.pointer d.l) ∧ y.w.cell? ⟨w.heap.size, 4, none⟩ = some (.int .i64 d.m) := fun y => (kd.keep y.h).c5
  have g2 : ∀ y : Ext w1, y.w.cell? ⟨w.heap.size + 1, 0, none⟩ = some (.slice SA Sn Sc) ∧ y.w.cell? ⟨w.heap.size + 1, 1, none⟩ = some (.slice WA Wn Wc) := fun y => (kx.keep y.h).c2
  have g10 := fun x => (g1 x).1
  have g11 := fun x => (g1 x).2.1
  have g12 := fun x => (g1 x).2.2.1
  have g13 := fun x => (g1 x).2.2.2.1
  have g14 := fun x => (g1 x).2.2.2.2
  have g20 := fun x => (g2 x).1
  have g21 := fun x => (g2 x).2
  have S1 := fun x : Ext w1 => sectors_any d x.w
  have S2 := fun x : Ext w1 => pending_any d x.w
  dsimp only [DV.v] at S1 S2
  have HS := hid (And.intro S1 S2)
  clear g1 g2 S1 S2
  (refine wp_region_ext (by kernel_rfl) (by kernel_rfl) ?_; (repeat (go_big_quiet_step (((first | (go_at_call 11; with_reducible exact Ext.calls _ (HS.out.1 _)) | (go_at_call 24; with_reducible exact Ext.calls _ (HS.out.2 _))))))); refine wpQuiet_nil ?_; rintro _ ⟨z, rfl⟩)
  clear g10 g11 g12 g13 g14 g20 g21 HS
  have kd2 := kd.keep z.h
  have kx2 := kx.keep z.h
  have B2 := hB.trans (z.h.mono hB.size)
  clear kd kx hB
  generalize z.w = w2 at *
  clear z
  obtain ⟨x0, x1⟩ := kx2.c2
  go_wp2_with fail
  go_loopw [31] (fun i wr => ∃ k : Nat, k ≤ Sn ∧ i = .int .i64 k ∧ Below w2.heap.size w2 wr) (fun i _ => Sn - (intOf i).toNat)
  case atStart => exact ⟨0, by omega, rfl, Below.refl _ _⟩
  case round =>
    obtain ⟨k, hk, rfl, hb2⟩ := hrel
    clear x0 x1
    have kd3 := kd2.keep hb2
    have kx3 := kx2.keep hb2
    have B3 := B2.trans (hb2.mono B2.size)
    by_cases hlt : k < Sn
    · obtain ⟨x0, x1, x2, x3, x4⟩ := kd3.c5
      have hkn : k < D.n := by rw [← HN.out.1]; exact hlt
      go_wp2_with fail
      have R4 := read_good d D k wr (HD.out.keep B3) hkn
      dsimp only [DV.v] at R4
      refine R4.mono ?_
      clear R4
      rintro e w4 ⟨gu, rfl, hown, b4⟩
      have hu : RB w4 (some ⟨gu, 0, none⟩) 128 (D.cur k) := RL.of_own hown
      have kd4 := kd3.keep b4
      have kx4 := kx3.keep b4
      have B4 := B3.trans (b4.mono B3.size)
      have hb4 := hb2.trans (b4.mono hb2.size)
      clear x0 x1 x2 x3 x4 kd3 kx3 B3 hown b4
      obtain ⟨x0, x1, x2, x3, x4⟩ := kd4.c5
      go_wp2_with fail
      have R5 := sync_any d w4
      dsimp only [DV.v, DV.sync] at R5
      refine R5.mono ?_
      clear R5
      rintro e w5 ⟨rfl, b5⟩
      have kd5 := kd4.keep b5
      have kx5 := kx4.keep b5
      have B5 := B4.trans (b5.mono B4.size)
      have hb5 := hb4.trans (b5.mono hb4.size)
      have hu5 := hu.below b5
      clear x0 x1 x2 x3 x4 kd4 kx4 B4 b5 hu
      go_wp2_with fail
      have R6 := read_good d.sync D.sync k w5 (HD.out.keep B5).sync hkn
      dsimp only [DV.v, DV.sync] at R6
      refine R6.mono ?_
      clear R6
      rintro e w6 ⟨gv, rfl, hown, b6⟩
      have hv : RB w6 (some ⟨gv, 0, none⟩) 128 (D.cur k) := RL.of_own hown
      have kd6 := kd5.keep b6
      have kx6 := kx5.keep b6
      have B6 := B5.trans (b6.mono B5.size)
      have hb6 := hb5.trans (b6.mono hb5.size)
      have hu6 := hu5.below b6
      clear kd5 kx5 B5 b6 hu5 hown
      obtain ⟨y0, y1⟩ := kx6.c2
      go_wp2_with fail
      have R7 := refRead_any N ⟨⟨SA, Sn, Sc⟩, ⟨WA, Wn, Wc⟩⟩ D k w6 (HX.out.keep B6) hkn
      simp only [Rv.v, Sl.v] at R7
      refine R7.mono ?_
      clear R7
      rintro e w7 ⟨s7, rfl, hs7, b7⟩
      have B7 := B6.trans (b7.mono B6.size)
      have hb7 := hb6.trans (b7.mono hb6.size)
      have hu7 := hu6.below b7
      have hv7 := hv.below b7
      go_wp2_with fail
      refine (equal_same _ _ _ _ _ _ _ _ hu7 hs7.rb).mono ?_
      rintro e w8 ⟨rfl, rfl⟩
      go_wp2_with fail
      refine (equal_same _ _ _ _ _ _ _ _ hv7 hu7).mono ?_
      rintro e w8 ⟨rfl, rfl⟩
      go_wp2_with fail
      go_roundw
      case measure => simp [intOf]; omega
      case rel => exact ⟨k + 1, by omega, by go_num, hb7⟩
    · obtain rfl : k = Sn := by omega
      obtain ⟨x0, x1, x2, x3, x4⟩ := kd3.c5
      go_wp2_with fail
      have R4 := read_bad d (-1) wr (.inl (by omega))
      dsimp only [DV.v] at R4
      refine R4.mono ?_
      clear R4
      rintro e w4 ⟨rfl, b4⟩
      have kd4 := kd3.keep b4
      have kx4 := kx3.keep b4
      have B4 := B3.trans (b4.mono B3.size)
      clear x0 x1 x2 x3 x4
      obtain ⟨x0, x1, x2, x3, x4⟩ := kd4.c5
      obtain ⟨y0, y1⟩ := kx4.c2
      go_wp2_with fail
      have R5 := read_bad d k w4 (.inr (by rw [HN.out.2, ← HN.out.1]; exact Int.le_refl _))
      dsimp only [DV.v] at R5
      refine R5.mono ?_
      clear R5
      rintro e w5 ⟨rfl, b5⟩
      go_wp2_with fail
      go_ret
      exact ⟨rfl, B4.trans (b5.mono B4.size)⟩
end Go.Proofs.Ythpalmncfcahkaa
