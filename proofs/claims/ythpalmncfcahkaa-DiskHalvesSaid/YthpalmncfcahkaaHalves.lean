/- The walk of DiskHalves. Conditions: none. -/
import Derived.Test.YthpalmncfcahkaaPlayed
import Derived.Test.YthpalmncfcahkaaHalf
import Derived.Test.YthpalmncfcahkaaHead
set_option linter.unusedSimpArgs false
set_option linter.unusedVariables false
namespace Go.Proofs.Ythpalmncfcahkaa
open Go.RowKit

/-- a variable of this type, whatever it holds -/
def Va (w : World) (b : Nat) : Prop := ∃ cs : List Value, cs.length = 5 ∧ Blk w b 25 cs
theorem Va.keep {w w' : World} {b : Nat} (h : Va w b) (hb : Below w.heap.size w w') : Va w' b := h.elim fun cs ⟨h1, h2⟩ => ⟨cs, h1, h2.keep hb⟩
theorem Va.put {w w' : World} {b g : Nat} {cs : List Value} (h : Va w b) (hk : Blk w' g 25 cs) (hl : cs.length = 5) (hr : w.grownBy w' (some g)) : Va w' b := by
  by_cases e : b = g
  · subst e
    exact ⟨cs, hl, hk⟩
  · obtain ⟨cs', h1, h2⟩ := h
    exact ⟨cs', h1, h2.grown hr (by simpa using fun h => e h.symm)⟩
theorem n8_small {n : Nat} (h : n < 256) : N8 (UInt8.ofNat n) = (n : Int) := by
  unfold N8
  simp [Nat.mod_eq_of_lt h]

theorem half_cells {w : World} {g x y : Nat} (h : RL w 1 (some ⟨g, 0, none⟩) 128 ((sect (UInt8.ofNat x) (UInt8.ofNat y)).map byV)) (hx : N8 (UInt8.ofNat x) = (x : Int)) (hy : N8 (UInt8.ofNat y) = (y : Int)) :
    g < w.heap.size ∧ (∀ i, i < 64 → w.cell? ⟨g, i, none⟩ = some (.int .u8 x)) ∧ ∀ i, i < 64 → w.cell? ⟨g, 64 + i, none⟩ = some (.int .u8 y) := by
  obtain ⟨b, off, e, hb, hc⟩ := h.2 (by omega)
  cases e
  refine ⟨hb, fun i hi => ?_, fun i hi => ?_⟩
  · have e1 : (sect (UInt8.ofNat x) (UInt8.ofNat y))[i]? = some (UInt8.ofNat x) := by
      unfold sect
      rw [List.getElem?_append_left (by rw [List.length_replicate]; exact hi), List.getElem?_replicate, if_pos hi]
    have := hc i (byV (UInt8.ofNat x)) (by rw [List.getElem?_map, e1]; rfl)
    rw [Nat.zero_add] at this
    rw [this, byV, hx]
  · have e1 : (sect (UInt8.ofNat x) (UInt8.ofNat y))[64 + i]? = some (UInt8.ofNat y) := by
      unfold sect
      rw [List.getElem?_append_right (by rw [List.length_replicate]; omega), List.length_replicate, Nat.add_sub_cancel_left, List.getElem?_replicate, if_pos hi]
    have := hc (64 + i) (byV (UInt8.ofNat y)) (by rw [List.getElem?_map, e1]; rfl)
    rw [Nat.zero_add] at this
    rw [this, byV, hy]
set_option maxRecDepth 100000 in
set_option maxHeartbeats 4000000 in
theorem halves_walk (A : Option Addr) (m c : Nat) (ch : Nat) (w : World) (hmc : m ≤ c) (hc : c ≤ 9223372036854775807) (hch : ch < 18446744073709551616) :
    Calls Try.prog 4 #[.slice A m c, .int .u64 ch] w fun e w' => e = .returned (.bool true) ∧ Below w.heap.size w w' := by
  by_cases hbad : 40 < m
  · go_enter Try.func4, Try.ntmps4
    have hb : decide ((m : Int) > 40) = true := decide_eq_true (by omega)
    go_wp2_with fail
    refine (awake_any w).mono ?_
    rintro e w1 ⟨rfl, b1⟩
    go_wp2_with fail
    go_ret
    exact ⟨rfl, b1⟩
  · go_enter Try.func4, Try.ntmps4
    have hb : decide ((m : Int) > 40) = false := decide_eq_false (by omega)
    go_wp2_with fail
    refine (new_ok 1 _ (by omega) (by omega)).mono ?_
    rintro e w1 ⟨rfl, b1⟩
    simp only [DV.v, show ((1 : Nat) : Int) = 1 from rfl, show ((0 : Nat) : Int) = 0 from rfl]
    go_wp2_with fail
    have hP : Blk (w1.alloc (.cells #[.int .i64 1, .pointer none, .pointer none, .pointer none, .int .i64 0] 25)) w1.heap.size 25 [.int .i64 1, .pointer none, .pointer none, .pointer none, .int .i64 0] := Blk.new w1 _ _
    have hB : Below w1.heap.size w1 (w1.alloc (.cells #[.int .i64 1, .pointer none, .pointer none, .pointer none, .int .i64 0] 25)) := (Below.refl _ _).alloc (Nat.le_refl _) _
    have hS : (w1.alloc (.cells #[.int .i64 1, .pointer none, .pointer none, .pointer none, .int .i64 0] 25)).heap.size = w1.heap.size + 1 := by simp
    generalize (w1.alloc (.cells #[.int .i64 1, .pointer none, .pointer none, .pointer none, .int .i64 0] 25)) = w2 at hP hB hS ⊢
    obtain ⟨d0, hd0⟩ : ∃ z, z = (⟨1, none, none, none, 0⟩ : DV) := ⟨_, rfl⟩
    have D2 : Bx w2 w1.heap.size d0 (Dk.new 1) := by rw [hd0]; exact ⟨hP, DkV.new w2 1 (by omega)⟩
    have B2 := b1.trans (hB.mono b1.size)
    have hH : w.heap.size ≤ w1.heap.size := b1.size
    clear hB b1 hS hP hd0
    generalize w1.heap.size = G at *
    obtain ⟨D1, hD1⟩ : ∃ z, (Dk.new 1).write 0 (sect 0 0) = z := ⟨_, rfl⟩
    have bd : Below w2.heap.size w2 w2.drew := (Below.refl _ _).drew
    refine wp_region_headF 110 6 [22, 23, 24, 21, 25, 26] [5] ((fun kq => ([fun u w' => u = d0.v, fun u w' => ∃ (A' : Option Addr), ∃ (c' : Nat), u = .slice A' 128 c' ∧ RL w' 1 A' 128 ((sect 0 0).map byV), fun u w' => ∃ (d1 : DV), u = .tuple #[d1.v, .int .i64 0] ∧ DkV w' d1 D1, fun u w' => ∃ (d1 : DV), u = .tuple #[d1.v, .int .i64 0] ∧ DkV w' d1 D1, fun u w' => ∃ (d1 : DV), u = d1.v ∧ DkV w' d1 D1, fun u w' => u = .int .i64 0] : List (Value → World → Prop)).getD kq (fun _ _ => True))) (by kernel_rfl) rfl (by kernel_rfl) ?grow ?step ?tail
    case step =>
      simp only [List.take_succ_cons, List.take_zero]
      refine HSteps.cons ?_ ?_
      · intro f w' hb hU
        obtain ⟨x0', x1', x2', x3', x4'⟩ := (D2.k.keep hb).c5
        simp only [putAll, List.foldl_cons, List.foldl_nil]
        go_frame
        go_wp2_with fail
        exact ⟨rfl, _, rfl, Below.refl _ _, rfl⟩
      refine HSteps.cons ?_ ?_
      · intro f w' hb hU
        simp only [putAll, List.foldl_cons, List.foldl_nil]
        go_frame
        go_wp2_with fail
        refine (sector_any 0 0 _).mono ?_
        rintro e w3 ⟨v3, rfl, hown3, b3⟩
        obtain ⟨A3, c3, rfl, hr3, _, _⟩ := own_form hown3
        go_wp2_with fail
        exact ⟨rfl, _, rfl, b3, A3, c3, rfl, hr3⟩
      refine HSteps.cons ?_ ?_
      · intro f w' hb hU
        obtain u0 : f 22 = d0.v := hU.get ⟨0, .data⟩ (by simp) rfl
        obtain ⟨A', c', u1, v1_0⟩ : ∃ (A' : Option Addr), ∃ (c' : Nat), f 23 = .slice A' 128 c' ∧ RL w' 1 A' 128 ((sect 0 0).map byV) := hU.get ⟨1, .data⟩ (by simp) rfl
        have R := write_good d0 (Dk.new 1) A' c' (sect 0 0) 0 w' (D2.d.keep hb) (by decide) v1_0 (by decide)
        rw [hD1] at R
        simp only [show ((0 : Nat) : Int) = 0 from rfl] at R
        simp only [putAll, List.foldl_cons, List.foldl_nil]
        go_frame
        try simp only [u0, u1]
        go_wp2_with fail
        refine (R).mono ?_
        rintro e w3 ⟨d4, rfl, hd4, b3⟩
        go_wp2_with fail
        exact ⟨rfl, _, rfl, b3, d4, rfl, hd4⟩
      refine HSteps.cons ?_ ?_
      · intro f w' hb hU
        obtain ⟨d1, u2, v2_0⟩ : ∃ (d1 : DV), f 24 = .tuple #[d1.v, .int .i64 0] ∧ DkV w' d1 D1 := hU.get ⟨2, .data⟩ (by simp) rfl
        simp only [putAll, List.foldl_cons, List.foldl_nil]
        go_frame
        try simp only [u2]
        go_wp2_with fail
        exact ⟨rfl, _, rfl, Below.refl _ _, d1, rfl, v2_0⟩
      refine HSteps.cons ?_ ?_
      · intro f w' hb hU
        obtain ⟨d1, u3, v3_0⟩ : ∃ (d1 : DV), f 21 = .tuple #[d1.v, .int .i64 0] ∧ DkV w' d1 D1 := hU.get ⟨3, .data⟩ (by simp) rfl
        simp only [putAll, List.foldl_cons, List.foldl_nil]
        go_frame
        try simp only [u3]
        go_wp2_with fail
        exact ⟨rfl, _, rfl, Below.refl _ _, d1, rfl, v3_0⟩
      refine HSteps.cons ?_ ?_
      · intro f w' hb hU
        obtain ⟨d1, u3, v3_0⟩ : ∃ (d1 : DV), f 21 = .tuple #[d1.v, .int .i64 0] ∧ DkV w' d1 D1 := hU.get ⟨3, .data⟩ (by simp) rfl
        simp only [putAll, List.foldl_cons, List.foldl_nil]
        go_frame
        try simp only [u3]
        go_wp2_with fail
        exact ⟨rfl, _, rfl, Below.refl _ _, rfl⟩
      exact HSteps.nil
    case grow =>
      intro kq u wa wb hb hu
      rcases kq with _ | _ | _ | _ | _ | _ | kq
      · exact hu
      · obtain ⟨A', c', ue, uf0⟩ := hu
        exact ⟨A', c', ue, uf0.below hb⟩
      · obtain ⟨d1, ue, uf0⟩ := hu
        exact ⟨d1, ue, uf0.keep hb⟩
      · obtain ⟨d1, ue, uf0⟩ := hu
        exact ⟨d1, ue, uf0.keep hb⟩
      · obtain ⟨d1, ue, uf0⟩ := hu
        exact ⟨d1, ue, uf0.keep hb⟩
      · exact hu
      · trivial
    case tail =>
      intro f w7 hb7 hU
      obtain ⟨d1, u4, v4_0⟩ : ∃ (d1 : DV), f 25 = d1.v ∧ DkV w7 d1 D1 := hU.get 4 (by decide)
      simp only [List.drop_succ_cons, List.drop_zero, putAll, List.foldl_cons, List.foldl_nil]
      go_frame
      simp only [u4]
      clear u4
      clear hU
      have k0 := D2.k.keep hb7
      have B7 := B2.trans (hb7.mono B2.size)
      go_wp2_with ((with_reducible refine is_store 25 ?_); refine wp_storeB G _ _ d1.cs k0 diskN rfl (dv_one _) rfl rfl ?_; intro w8 k8 r8; go_frame)
      refine noPanic_ok ?_
      have hd8 := v4_0.kept (Kept.grown r8 k0 notDk)
      have B8 := B7.grown r8 B7.size (fun q hq => by cases hq; exact hH)
      clear k0 B7 v4_0 hb7 r8
      obtain ⟨x0', x1', x2', x3', x4'⟩ := k8.c5
      have hgl := k8.lt
      go_wp2_with fail
      refine (sync_any d1 _).mono ?_
      rintro e w10 ⟨rfl, b10⟩
      have k10 := k8.keep b10
      have hd10 := hd8.keep b10
      have B10 := B8.trans (b10.mono B8.size)
      clear x0' x1' x2' x3' x4' hgl k8 hd8 B8
      go_wp2_with ((with_reducible refine is_store 25 ?_); refine wp_storeB G _ _ d1.sync.cs k10 diskN rfl (dv_one _) rfl rfl ?_; intro w9 k9 r9; go_frame)
      have D9 : Bx w9 G d1.sync (hs 0) := ⟨k9, by have := hd10.sync.kept (Kept.grown r9 k10 notDk); rw [← hD1] at this; exact this⟩
      have B9 := B10.grown r9 B10.size (fun q hq => by cases hq; exact hH)
      clear k10 hd10 B10 r9 k9 D2 B2 bd hD1
      go_wp2_with fail
      go_loopw [31] (fun i wr => ∃ (k : Nat) (d : DV), k ≤ m ∧ i = .int .i64 k ∧ Bx wr G d (hs k) ∧ Below w.heap.size w wr) (fun i _ => m - (intOf i).toNat)
      case atStart => exact ⟨0, _, Nat.zero_le _, rfl, D9, B9⟩
      case round =>
        obtain ⟨k, d, hk, rfl, Dr, hbel⟩ := hrel
        clear D9 B9
        by_cases hlt : k < m
        · have hgl := Dr.k.lt
          go_wp2_with fail
          have bd : Below wr.heap.size wr wr.drew := (Below.refl _ _).drew
          obtain ⟨v, hv⟩ : ∃ z, UInt8.ofNat (k + 1) = z := ⟨_, rfl⟩
          have hN : N8 v = ((k + 1 : Nat) : Int) := by rw [← hv]; exact n8_small (by omega)
          refine wp_region_headF 110 13 [35, 36, 37, 38, 39, 40, 41, 42, 43, 34, 44, 45, 8] [11] ((fun kq => ([fun u w' => u = d.v, fun u w' => u = .int .i64 k, fun u w' => u = .int .i64 ((k : Int) + 1), fun u w' => u = .int .u8 (N8 v), fun u w' => u = .int .i64 k, fun u w' => u = .int .i64 ((k : Int) + 1), fun u w' => u = .int .u8 (N8 v), fun u w' => ∃ (A' : Option Addr), ∃ (c' : Nat), u = .slice A' 128 c' ∧ RL w' 1 A' 128 ((sect v v).map byV), fun u w' => ∃ (d1 : DV), u = .tuple #[d1.v, .int .i64 0] ∧ DkV w' d1 (hs (k + 1)), fun u w' => ∃ (d1 : DV), u = .tuple #[d1.v, .int .i64 0] ∧ DkV w' d1 (hs (k + 1)), fun u w' => ∃ (d1 : DV), u = d1.v ∧ DkV w' d1 (hs (k + 1)), fun u w' => u = .int .i64 0, fun u w' => ∃ (b : Nat), u = .pointer (some ⟨b, 0, none⟩) ∧ wr.heap.size ≤ b ∧ Blk w' b 25 DV.zero.cs] : List (Value → World → Prop)).getD kq (fun _ _ => True))) (by kernel_rfl) rfl (by kernel_rfl) ?grow ?step ?tail
          case step =>
            simp only [List.take_succ_cons, List.take_zero]
            refine HSteps.cons ?_ ?_
            · intro f w' hb hU
              obtain ⟨x0', x1', x2', x3', x4'⟩ := (Dr.k.keep hb).c5
              simp only [putAll, List.foldl_cons, List.foldl_nil]
              go_frame
              go_wp2_with fail
              exact ⟨rfl, _, rfl, Below.refl _ _, rfl⟩
            refine HSteps.cons ?_ ?_
            · intro f w' hb hU
              simp only [putAll, List.foldl_cons, List.foldl_nil]
              go_frame
              go_wp2_with fail
              exact ⟨rfl, _, rfl, Below.refl _ _, rfl⟩
            refine HSteps.cons ?_ ?_
            · intro f w' hb hU
              obtain u1 : f 36 = .int .i64 k := hU.get ⟨1, .data⟩ (by simp) rfl
              simp only [putAll, List.foldl_cons, List.foldl_nil]
              go_frame
              try simp only [u1]
              go_wp2_with fail
              exact ⟨rfl, _, rfl, Below.refl _ _, rfl⟩
            refine HSteps.cons ?_ ?_
            · intro f w' hb hU
              obtain u2 : f 37 = .int .i64 ((k : Int) + 1) := hU.get ⟨2, .data⟩ (by simp) rfl
              simp only [putAll, List.foldl_cons, List.foldl_nil]
              go_frame
              try simp only [u2]
              go_wp2_with fail
              exact ⟨rfl, _, rfl, Below.refl _ _, by rw [hN]; rfl⟩
            refine HSteps.cons ?_ ?_
            · intro f w' hb hU
              simp only [putAll, List.foldl_cons, List.foldl_nil]
              go_frame
              go_wp2_with fail
              exact ⟨rfl, _, rfl, Below.refl _ _, rfl⟩
            refine HSteps.cons ?_ ?_
            · intro f w' hb hU
              obtain u4 : f 39 = .int .i64 k := hU.get ⟨4, .data⟩ (by simp) rfl
              simp only [putAll, List.foldl_cons, List.foldl_nil]
              go_frame
              try simp only [u4]
              go_wp2_with fail
              exact ⟨rfl, _, rfl, Below.refl _ _, rfl⟩
            refine HSteps.cons ?_ ?_
            · intro f w' hb hU
              obtain u5 : f 40 = .int .i64 ((k : Int) + 1) := hU.get ⟨5, .data⟩ (by simp) rfl
              simp only [putAll, List.foldl_cons, List.foldl_nil]
              go_frame
              try simp only [u5]
              go_wp2_with fail
              exact ⟨rfl, _, rfl, Below.refl _ _, by rw [hN]; rfl⟩
            refine HSteps.cons ?_ ?_
            · intro f w' hb hU
              obtain u3 : f 38 = .int .u8 (N8 v) := hU.get ⟨3, .data⟩ (by simp) rfl
              obtain u6 : f 41 = .int .u8 (N8 v) := hU.get ⟨6, .data⟩ (by simp) rfl
              clear hU hN hv
              simp only [putAll, List.foldl_cons, List.foldl_nil]
              go_frame
              try simp only [u3, u6]
              go_wp2_with fail
              refine (sector_any v v _).mono ?_
              rintro e w3 ⟨v3, rfl, hown3, b3⟩
              obtain ⟨A3, c3, rfl, hr3, _, _⟩ := own_form hown3
              go_wp2_with fail
              exact ⟨rfl, _, rfl, b3, A3, c3, rfl, hr3⟩
            refine HSteps.cons ?_ ?_
            · intro f w' hb hU
              obtain u0 : f 35 = d.v := hU.get ⟨0, .data⟩ (by simp) rfl
              obtain ⟨A', c', u7, v7_0⟩ : ∃ (A' : Option Addr), ∃ (c' : Nat), f 42 = .slice A' 128 c' ∧ RL w' 1 A' 128 ((sect v v).map byV) := hU.get ⟨7, .data⟩ (by simp) rfl
              have R := write_good d (hs k) A' c' (sect v v) 0 w' (Dr.d.keep hb) (by rw [hs_n]; decide) v7_0 (by rw [hs_W]; omega)
              rw [show (hs k).write 0 (sect v v) = hs (k + 1) from by rw [← hv]; rfl] at R
              simp only [show ((0 : Nat) : Int) = 0 from rfl] at R
              simp only [putAll, List.foldl_cons, List.foldl_nil]
              go_frame
              try simp only [u0, u7]
              go_wp2_with fail
              refine (R).mono ?_
              rintro e w3 ⟨d4, rfl, hd4, b3⟩
              go_wp2_with fail
              exact ⟨rfl, _, rfl, b3, d4, rfl, hd4⟩
            refine HSteps.cons ?_ ?_
            · intro f w' hb hU
              obtain ⟨d1, u8, v8_0⟩ : ∃ (d1 : DV), f 43 = .tuple #[d1.v, .int .i64 0] ∧ DkV w' d1 (hs (k + 1)) := hU.get ⟨8, .data⟩ (by simp) rfl
              simp only [putAll, List.foldl_cons, List.foldl_nil]
              go_frame
              try simp only [u8]
              go_wp2_with fail
              exact ⟨rfl, _, rfl, Below.refl _ _, d1, rfl, v8_0⟩
            refine HSteps.cons ?_ ?_
            · intro f w' hb hU
              obtain ⟨d1, u9, v9_0⟩ : ∃ (d1 : DV), f 34 = .tuple #[d1.v, .int .i64 0] ∧ DkV w' d1 (hs (k + 1)) := hU.get ⟨9, .data⟩ (by simp) rfl
              simp only [putAll, List.foldl_cons, List.foldl_nil]
              go_frame
              try simp only [u9]
              go_wp2_with fail
              exact ⟨rfl, _, rfl, Below.refl _ _, d1, rfl, v9_0⟩
            refine HSteps.cons ?_ ?_
            · intro f w' hb hU
              obtain ⟨d1, u9, v9_0⟩ : ∃ (d1 : DV), f 34 = .tuple #[d1.v, .int .i64 0] ∧ DkV w' d1 (hs (k + 1)) := hU.get ⟨9, .data⟩ (by simp) rfl
              simp only [putAll, List.foldl_cons, List.foldl_nil]
              go_frame
              try simp only [u9]
              go_wp2_with fail
              exact ⟨rfl, _, rfl, Below.refl _ _, rfl⟩
            refine HSteps.cons ?_ ?_
            · intro f w' hb hU
              have hP : Blk _ w'.heap.size 25 DV.zero.cs := Blk.new w' _ _
              have hb3 : Below w'.heap.size w' _ := (Below.refl _ _).alloc (Nat.le_refl _) (.cells DV.zero.cs.toArray 25)
              simp only [putAll, List.foldl_cons, List.foldl_nil]
              go_frame
              go_wp2_with fail
              exact ⟨rfl, _, rfl, hb3, _, rfl, hb.size, hP⟩
            exact HSteps.nil
          case grow =>
            intro kq u wa wb hb hu
            rcases kq with _ | _ | _ | _ | _ | _ | _ | _ | _ | _ | _ | _ | _ | kq
            · exact hu
            · exact hu
            · exact hu
            · exact hu
            · exact hu
            · exact hu
            · exact hu
            · obtain ⟨A', c', ue, uf0⟩ := hu
              exact ⟨A', c', ue, uf0.below hb⟩
            · obtain ⟨d1, ue, uf0⟩ := hu
              exact ⟨d1, ue, uf0.keep hb⟩
            · obtain ⟨d1, ue, uf0⟩ := hu
              exact ⟨d1, ue, uf0.keep hb⟩
            · obtain ⟨d1, ue, uf0⟩ := hu
              exact ⟨d1, ue, uf0.keep hb⟩
            · exact hu
            · obtain ⟨b, ue, uf0, uf1⟩ := hu
              exact ⟨b, ue, uf0, uf1.keep hb⟩
            · trivial
          case tail =>
            intro f w7 hb7 hU
            obtain ⟨d1, u10, v10_0⟩ : ∃ (d1 : DV), f 44 = d1.v ∧ DkV w7 d1 (hs (k + 1)) := hU.get 10 (by decide)
            obtain u11 : f 45 = .int .i64 0 := hU.get 11 (by decide)
            obtain ⟨b, u12, v12_0, v12_1⟩ : ∃ (b : Nat), f 8 = .pointer (some ⟨b, 0, none⟩) ∧ wr.heap.size ≤ b ∧ Blk w7 b 25 DV.zero.cs := hU.get 12 (by decide)
            simp only [List.drop_succ_cons, List.drop_zero, putAll, List.foldl_cons, List.foldl_nil]
            go_frame
            simp only [u10, u11, u12]
            clear u10 u11 u12
            clear hU
            have kG := Dr.k.keep hb7
            have B7 := hbel.trans (hb7.mono hbel.size)
            have hne : ¬ G = b := by omega
            have hwb : w.heap.size ≤ b := by have := hbel.size; omega
            clear hN hv bd Dr hbel hb7
            go_wp2_with ((with_reducible refine is_store 25 ?_); refine wp_storeB b _ _ d1.cs v12_1 diskN rfl (dv_one _) rfl rfl ?_; intro w8 k8 r8; go_frame)
            have kG8 := kG.grown r8 (by simpa using fun h => hne h.symm)
            have hd8 := v10_0.kept (Kept.grown r8 v12_1 notDk)
            have B8 := B7.grown r8 B7.size (fun q hq => by cases hq; exact hwb)
            refine noPanic_ok ?_
            clear kG B7 v10_0 r8 v12_1 v12_0
            obtain ⟨x0', x1', x2', x3', x4'⟩ := k8.c5
            have hbl := k8.lt
            have hgl8 := kG8.lt
            go_wp2_with ((with_reducible refine is_store 25 ?_); refine wp_storeB G _ _ d1.cs kG8 diskN rfl (dv_one _) rfl rfl ?_; intro w9 k9 r9; go_frame)
            have hd9 := hd8.kept (Kept.grown r9 kG8 notDk)
            have B9 := B8.grown r9 B8.size (fun q hq => by cases hq; exact hH)
            clear x0' x1' x2' x3' x4' kG8 hd8 B8 k8 r9
            go_wp2_with fail
            go_roundw
            case rel => exact ⟨k + 1, d1, by omega, by go_num, ⟨k9, hd9⟩, B9⟩
            case measure => simp [intOf]; omega
        · obtain rfl : k = m := by omega
          have hgl := Dr.k.lt
          obtain ⟨x0', x1', x2', x3', x4'⟩ := Dr.k.c5
          go_wp2_with fail
          refine (crash_any d (hs k) ch _ Dr.d (by rw [hs_W]; omega) hch).mono ?_
          rintro e w10 ⟨d2, rfl, hd2, b10⟩
          have B10 := hbel.trans (b10.mono hbel.size)
          obtain ⟨x, y, hyx, hxk, hcur⟩ := half_cur ch k
          clear x0' x1' x2' x3' x4' hgl Dr hbel
          go_wp2_with fail
          have R := read_good d2 ((hs k).crash ch) 0 w10 hd2 (by show 0 < (hs k).n; rw [hs_n]; decide)
          rw [hcur] at R
          simp only [show ((0 : Nat) : Int) = 0 from rfl] at R
          refine R.mono ?_
          rintro e w11 ⟨g, rfl, hown, b11⟩
          have B11 := B10.trans (b11.mono B10.size)
          have hr : RL w11 1 (some ⟨g, 0, none⟩) 128 ((sect (UInt8.ofNat x) (UInt8.ofNat y)).map byV) := RL.of_own hown
          clear R hown B10 b11 hd2 b10 hcur
          have nx : N8 (UInt8.ofNat x) = (x : Int) := n8_small (by omega)
          have ny : N8 (UInt8.ofNat y) = (y : Int) := n8_small (by omega)
          go_wp2_with fail
          go_loopw [68] (fun i wr => ∃ q : Nat, q ≤ 64 ∧ i = .int .i64 q ∧ RL wr 1 (some ⟨g, 0, none⟩) 128 ((sect (UInt8.ofNat x) (UInt8.ofNat y)).map byV) ∧ Below w.heap.size w wr) (fun i _ => 64 - (intOf i).toNat)
          case atStart => exact ⟨0, Nat.zero_le _, rfl, hr, B11⟩
          case round =>
            obtain ⟨q, hq, rfl, hr, hbel⟩ := hrel
            by_cases hql : q < 64
            · have C := fun z : Ext wr => half_cells (hr.below z.h) nx ny
              have c0 := fun z => (C z).2.1 0 (by omega)
              have c1 := fun z => (C z).2.1 q hql
              have c2 := fun z => (C z).2.2 0 (by omega)
              have c3 := fun z => (C z).2.2 q hql
              simp only [Nat.add_zero] at c2
              clear C nx ny
              have e1 := IntWalk.i64_in (64 + (q : Int)) (by omega)
              have e2 : ((64 : Int) + (q : Int)).toNat = 64 + q := by omega
              go_wp2_with fail
              (refine wp_region_ext (by kernel_rfl) (by kernel_rfl) ?_; (repeat (go_big_quiet_step ((fail)))); refine wpQuiet_nil ?_; rintro _ ⟨z, rfl⟩)
              go_wp2_with fail
              go_roundw
              case rel => exact ⟨q + 1, by omega, by go_num, hr.below z.h, hbel.trans (z.h.mono hbel.size)⟩
              case measure => simp [intOf]; omega
            · obtain rfl : q = 64 := by omega
              have HN := hid (And.intro nx ny)
              clear nx ny
              go_wp2_with fail
              refine wp_region_head 110 19 [91, 92, 93, 94, 95, 96, 97, 98, 99, 100, 101, 102, 103, 104, 105, 106, 107, 108, 109] [] ((fun kq => ([fun u w' => u = .bool true, fun u w' => u = .bool true, fun u w' => u = .slice (some ⟨g, 0, none⟩) 128 128, fun u w' => u = .pointer (some ⟨g, 0, none⟩), fun u w' => u = .int .u8 x, fun u w' => u = .int .i64 x, fun u w' => u = .slice A k c, fun u w' => u = .int .i64 k, fun u w' => u = .bool true, fun u w' => u = .bool true, fun u w' => u = .bool true, fun u w' => u = .slice (some ⟨g, 0, none⟩) 128 128, fun u w' => u = .pointer (some ⟨g, 64, none⟩), fun u w' => u = .int .u8 y, fun u w' => u = .slice (some ⟨g, 0, none⟩) 128 128, fun u w' => u = .pointer (some ⟨g, 0, none⟩), fun u w' => u = .int .u8 x, fun u w' => u = .bool true, fun u w' => u = .bool true] : List (Value → World → Prop)).getD kq (fun _ _ => True))) (by kernel_rfl) rfl (by kernel_rfl) (.inl rfl) ?grow ?step ?tail
              case step =>
                simp only [List.take_succ_cons, List.take_zero]
                refine HSteps.cons ?_ ?_
                · intro f w' hb hU
                  simp only [putAll, List.foldl_cons, List.foldl_nil]
                  go_frame
                  go_wp2_with fail
                  refine (awake_any _).mono ?_
                  rintro e w3 ⟨rfl, b3⟩
                  go_wp2_with fail
                  exact ⟨rfl, _, rfl, b3, rfl⟩
                refine HSteps.cons ?_ ?_
                · intro f w' hb hU
                  obtain u0 : f 91 = .bool true := hU.get ⟨0, .data⟩ (by simp) rfl
                  simp only [putAll, List.foldl_cons, List.foldl_nil]
                  go_frame
                  try simp only [u0]
                  go_wp2_with fail
                  exact ⟨rfl, _, rfl, Below.refl _ _, rfl⟩
                refine HSteps.cons ?_ ?_
                · intro f w' hb hU
                  obtain u1 : f 92 = .bool true := hU.get ⟨1, .guard⟩ (by simp) rfl
                  simp only [putAll, List.foldl_cons, List.foldl_nil]
                  go_frame
                  try simp only [u1]
                  go_wp2_with fail
                  exact ⟨rfl, _, rfl, Below.refl _ _, rfl⟩
                refine HSteps.cons ?_ ?_
                · intro f w' hb hU
                  obtain u2 : f 93 = .slice (some ⟨g, 0, none⟩) 128 128 := hU.get ⟨2, .data⟩ (by simp) rfl
                  obtain u1 : f 92 = .bool true := hU.get ⟨1, .guard⟩ (by simp) rfl
                  simp only [putAll, List.foldl_cons, List.foldl_nil]
                  go_frame
                  try simp only [u2, u1]
                  go_wp2_with fail
                  exact ⟨rfl, _, rfl, Below.refl _ _, rfl⟩
                refine HSteps.cons ?_ ?_
                · intro f w' hb hU
                  obtain u3 : f 94 = .pointer (some ⟨g, 0, none⟩) := hU.get ⟨3, .data⟩ (by simp) rfl
                  obtain u1 : f 92 = .bool true := hU.get ⟨1, .guard⟩ (by simp) rfl
                  have hgl := (half_cells (hr.below hb) HN.out.1 HN.out.2).1
                  have hc := (half_cells (hr.below hb) HN.out.1 HN.out.2).2
                  have c0 := hc.1 0 (by omega)
                  have c2 := hc.2 0 (by omega)
                  simp only [Nat.add_zero] at c2
                  clear hc
                  simp only [putAll, List.foldl_cons, List.foldl_nil]
                  go_frame
                  try simp only [u3, u1]
                  go_wp2_with fail
                  exact ⟨rfl, _, rfl, Below.refl _ _, rfl⟩
                refine HSteps.cons ?_ ?_
                · intro f w' hb hU
                  obtain u4 : f 95 = .int .u8 x := hU.get ⟨4, .data⟩ (by simp) rfl
                  obtain u1 : f 92 = .bool true := hU.get ⟨1, .guard⟩ (by simp) rfl
                  simp only [putAll, List.foldl_cons, List.foldl_nil]
                  go_frame
                  try simp only [u4, u1]
                  go_wp2_with fail
                  exact ⟨rfl, _, rfl, Below.refl _ _, rfl⟩
                refine HSteps.cons ?_ ?_
                · intro f w' hb hU
                  obtain u1 : f 92 = .bool true := hU.get ⟨1, .guard⟩ (by simp) rfl
                  simp only [putAll, List.foldl_cons, List.foldl_nil]
                  go_frame
                  try simp only [u1]
                  go_wp2_with fail
                  exact ⟨rfl, _, rfl, Below.refl _ _, rfl⟩
                refine HSteps.cons ?_ ?_
                · intro f w' hb hU
                  obtain u6 : f 97 = .slice A k c := hU.get ⟨6, .data⟩ (by simp) rfl
                  obtain u1 : f 92 = .bool true := hU.get ⟨1, .guard⟩ (by simp) rfl
                  simp only [putAll, List.foldl_cons, List.foldl_nil]
                  go_frame
                  try simp only [u6, u1]
                  go_wp2_with fail
                  exact ⟨rfl, _, rfl, Below.refl _ _, rfl⟩
                refine HSteps.cons ?_ ?_
                · intro f w' hb hU
                  obtain u5 : f 96 = .int .i64 x := hU.get ⟨5, .data⟩ (by simp) rfl
                  obtain u7 : f 98 = .int .i64 k := hU.get ⟨7, .data⟩ (by simp) rfl
                  obtain u1 : f 92 = .bool true := hU.get ⟨1, .guard⟩ (by simp) rfl
                  have t1 : decide ((x : Int) ≤ (k : Int)) = true := decide_eq_true (by omega)
                  simp only [putAll, List.foldl_cons, List.foldl_nil]
                  go_frame
                  try simp only [u5, u7, u1]
                  go_wp2_with fail
                  exact ⟨rfl, _, rfl, Below.refl _ _, rfl⟩
                refine HSteps.cons ?_ ?_
                · intro f w' hb hU
                  obtain u1 : f 92 = .bool true := hU.get ⟨1, .data⟩ (by simp) rfl
                  obtain u8 : f 99 = .bool true := hU.get ⟨8, .data⟩ (by simp) rfl
                  simp only [putAll, List.foldl_cons, List.foldl_nil]
                  go_frame
                  try simp only [u1, u8]
                  go_wp2_with fail
                  exact ⟨rfl, _, rfl, Below.refl _ _, rfl⟩
                refine HSteps.cons ?_ ?_
                · intro f w' hb hU
                  obtain u9 : f 100 = .bool true := hU.get ⟨9, .data⟩ (by simp) rfl
                  obtain u1 : f 92 = .bool true := hU.get ⟨1, .chain⟩ (by simp) rfl
                  simp only [putAll, List.foldl_cons, List.foldl_nil]
                  go_frame
                  try simp only [u9, u1]
                  go_wp2_with fail
                  exact ⟨rfl, _, rfl, Below.refl _ _, rfl⟩
                refine HSteps.cons ?_ ?_
                · intro f w' hb hU
                  obtain u10 : f 101 = .bool true := hU.get ⟨10, .guard⟩ (by simp) rfl
                  simp only [putAll, List.foldl_cons, List.foldl_nil]
                  go_frame
                  try simp only [u10]
                  go_wp2_with fail
                  exact ⟨rfl, _, rfl, Below.refl _ _, rfl⟩
                refine HSteps.cons ?_ ?_
                · intro f w' hb hU
                  obtain u11 : f 102 = .slice (some ⟨g, 0, none⟩) 128 128 := hU.get ⟨11, .data⟩ (by simp) rfl
                  obtain u10 : f 101 = .bool true := hU.get ⟨10, .guard⟩ (by simp) rfl
                  simp only [putAll, List.foldl_cons, List.foldl_nil]
                  go_frame
                  try simp only [u11, u10]
                  go_wp2_with fail
                  exact ⟨rfl, _, rfl, Below.refl _ _, rfl⟩
                refine HSteps.cons ?_ ?_
                · intro f w' hb hU
                  obtain u12 : f 103 = .pointer (some ⟨g, 64, none⟩) := hU.get ⟨12, .data⟩ (by simp) rfl
                  obtain u10 : f 101 = .bool true := hU.get ⟨10, .guard⟩ (by simp) rfl
                  have hgl := (half_cells (hr.below hb) HN.out.1 HN.out.2).1
                  have hc := (half_cells (hr.below hb) HN.out.1 HN.out.2).2
                  have c0 := hc.1 0 (by omega)
                  have c2 := hc.2 0 (by omega)
                  simp only [Nat.add_zero] at c2
                  clear hc
                  simp only [putAll, List.foldl_cons, List.foldl_nil]
                  go_frame
                  try simp only [u12, u10]
                  go_wp2_with fail
                  exact ⟨rfl, _, rfl, Below.refl _ _, rfl⟩
                refine HSteps.cons ?_ ?_
                · intro f w' hb hU
                  obtain u10 : f 101 = .bool true := hU.get ⟨10, .guard⟩ (by simp) rfl
                  simp only [putAll, List.foldl_cons, List.foldl_nil]
                  go_frame
                  try simp only [u10]
                  go_wp2_with fail
                  exact ⟨rfl, _, rfl, Below.refl _ _, rfl⟩
                refine HSteps.cons ?_ ?_
                · intro f w' hb hU
                  obtain u14 : f 105 = .slice (some ⟨g, 0, none⟩) 128 128 := hU.get ⟨14, .data⟩ (by simp) rfl
                  obtain u10 : f 101 = .bool true := hU.get ⟨10, .guard⟩ (by simp) rfl
                  simp only [putAll, List.foldl_cons, List.foldl_nil]
                  go_frame
                  try simp only [u14, u10]
                  go_wp2_with fail
                  exact ⟨rfl, _, rfl, Below.refl _ _, rfl⟩
                refine HSteps.cons ?_ ?_
                · intro f w' hb hU
                  obtain u15 : f 106 = .pointer (some ⟨g, 0, none⟩) := hU.get ⟨15, .data⟩ (by simp) rfl
                  obtain u10 : f 101 = .bool true := hU.get ⟨10, .guard⟩ (by simp) rfl
                  have hgl := (half_cells (hr.below hb) HN.out.1 HN.out.2).1
                  have hc := (half_cells (hr.below hb) HN.out.1 HN.out.2).2
                  have c0 := hc.1 0 (by omega)
                  have c2 := hc.2 0 (by omega)
                  simp only [Nat.add_zero] at c2
                  clear hc
                  simp only [putAll, List.foldl_cons, List.foldl_nil]
                  go_frame
                  try simp only [u15, u10]
                  go_wp2_with fail
                  exact ⟨rfl, _, rfl, Below.refl _ _, rfl⟩
                refine HSteps.cons ?_ ?_
                · intro f w' hb hU
                  obtain u13 : f 104 = .int .u8 y := hU.get ⟨13, .data⟩ (by simp) rfl
                  obtain u16 : f 107 = .int .u8 x := hU.get ⟨16, .data⟩ (by simp) rfl
                  obtain u10 : f 101 = .bool true := hU.get ⟨10, .guard⟩ (by simp) rfl
                  have t1 : decide ((y : Int) ≤ (x : Int)) = true := decide_eq_true (by omega)
                  simp only [putAll, List.foldl_cons, List.foldl_nil]
                  go_frame
                  try simp only [u13, u16, u10]
                  go_wp2_with fail
                  exact ⟨rfl, _, rfl, Below.refl _ _, rfl⟩
                refine HSteps.cons ?_ ?_
                · intro f w' hb hU
                  obtain u10 : f 101 = .bool true := hU.get ⟨10, .data⟩ (by simp) rfl
                  obtain u17 : f 108 = .bool true := hU.get ⟨17, .data⟩ (by simp) rfl
                  simp only [putAll, List.foldl_cons, List.foldl_nil]
                  go_frame
                  try simp only [u10, u17]
                  go_wp2_with fail
                  exact ⟨rfl, _, rfl, Below.refl _ _, rfl⟩
                exact HSteps.nil
              case grow =>
                intro kq u wa wb hb hu
                rcases kq with _ | _ | _ | _ | _ | _ | _ | _ | _ | _ | _ | _ | _ | _ | _ | _ | _ | _ | _ | kq
                · exact hu
                · exact hu
                · exact hu
                · exact hu
                · exact hu
                · exact hu
                · exact hu
                · exact hu
                · exact hu
                · exact hu
                · exact hu
                · exact hu
                · exact hu
                · exact hu
                · exact hu
                · exact hu
                · exact hu
                · exact hu
                · exact hu
                · trivial
              case tail =>
                intro f w7 hb7 hU
                obtain u18 : f 109 = .bool true := hU.get 18 (by decide)
                simp only [List.drop_succ_cons, List.drop_zero, putAll, List.foldl_cons, List.foldl_nil]
                go_frame
                simp only [u18]
                clear u18
                clear hU
                go_wp2_with fail
                go_ret
                exact ⟨rfl, hbel.trans (hb7.mono hbel.size)⟩
end Go.Proofs.Ythpalmncfcahkaa

