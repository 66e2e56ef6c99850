/- The walk of DiskNew. Conditions: none. -/
import Derived.Test.YthpalmncfcahkaaAwake
set_option linter.unusedSimpArgs false
set_option linter.unusedVariables false
namespace Go.Proofs.Ythpalmncfcahkaa
open Go.RowKit

theorem notU8 : ¬ dkT 5 := by unfold dkT; decide
theorem zsect : zero128 = sect 0 0 := by rfl
set_option maxRecDepth 100000 in
set_option maxHeartbeats 2000000 in
theorem new_walk (n : Int) (at_ : Nat) (w : World) (hat : at_ ≤ 255) :
    Calls Try.prog 3 #[.int .i64 n, .int .u8 at_] w fun e w' => e = .returned (.bool true) ∧ Below w.heap.size w w' := by
  by_cases hbad : n < 1 ∨ 16384 < n
  · go_enter Try.func3, Try.ntmps3
    go_wp2_with fail
    refine (new_bad n _ hbad).mono ?_
    rintro e w1 ⟨rfl, b1⟩
    simp only [DV.v, DV.zero, show ((0 : Nat) : Int) = 0 from rfl]
    by_cases h1 : n < 1
    all_goals (
      first
        | (have t1 : decide (n < (1 : Int)) = true := by simpa using h1)
        | (have t1 : decide (n < (1 : Int)) = false := by simpa using h1
           have t2 : decide ((16384 : Int) < n) = true := by simp; omega)
      clear hbad
      go_wp2_with fail
      have hP : Blk (w1.alloc (.cells #[.int .i64 0, .pointer none, .pointer none, .pointer none, .int .i64 0] 25)) w1.heap.size 25 [.int .i64 0, .pointer none, .pointer none, .pointer none, .int .i64 0] := Blk.new w1 _ _
      have hB : Below w1.heap.size w1 (w1.alloc (.cells #[.int .i64 0, .pointer none, .pointer none, .pointer none, .int .i64 0] 25)) := (Below.refl _ _).alloc (Nat.le_refl _) _
      have hS : (w1.alloc (.cells #[.int .i64 0, .pointer none, .pointer none, .pointer none, .int .i64 0] 25)).heap.size = w1.heap.size + 1 := by simp
      generalize (w1.alloc (.cells #[.int .i64 0, .pointer none, .pointer none, .pointer none, .int .i64 0] 25)) = w2 at hP hB hS ⊢
      have B2 := b1.trans (hB.mono b1.size)
      clear b1 hB hS
      refine (awake_any w2).mono ?_
      rintro e w3 ⟨rfl, b3⟩
      have k3 := hP.keep b3
      have B3 := B2.trans (b3.mono B2.size)
      obtain ⟨x0, x1, x2, x3, x4⟩ := k3.c5
      go_wp2_with fail
      have R := sectors_any DV.zero w3
      simp only [DV.v, DV.zero, show ((0 : Nat) : Int) = 0 from rfl] at R
      refine R.mono ?_
      rintro e w4 ⟨rfl, b4⟩
      go_wp2_with fail
      go_ret
      exact ⟨rfl, B3.trans (b4.mono B3.size)⟩)
  · obtain ⟨m, rfl⟩ : ∃ m : Nat, n = m := ⟨n.toNat, by omega⟩
    have h1 : 1 ≤ m := by omega
    have h2 : m ≤ 16384 := by omega
    have t1 : decide ((m : Int) < (1 : Int)) = false := by simp; omega
    have t2 : decide ((16384 : Int) < (m : Int)) = false := by simp; omega
    obtain ⟨i, hi, HM⟩ : ∃ i : Nat, i < m ∧ Hid (((at_ : Int) % (m : Int)) = (i : Int)) := ⟨at_ % m, Nat.mod_lt _ h1, by show _ = _; omega⟩
    clear hbad
    go_enter Try.func3, Try.ntmps3
    go_wp2_with fail
    refine (new_ok m _ h1 h2).mono ?_
    rintro e w1 ⟨rfl, b1⟩
    simp only [DV.v, show ((0 : Nat) : Int) = 0 from rfl]
    go_wp2_with fail
    have hP : Blk (w1.alloc (.cells #[.int .i64 m, .pointer none, .pointer none, .pointer none, .int .i64 0] 25)) w1.heap.size 25 [.int .i64 m, .pointer none, .pointer none, .pointer none, .int .i64 0] := Blk.new w1 _ _
    have hB : Below w1.heap.size w1 (w1.alloc (.cells #[.int .i64 m, .pointer none, .pointer none, .pointer none, .int .i64 0] 25)) := (Below.refl _ _).alloc (Nat.le_refl _) _
    have hS : (w1.alloc (.cells #[.int .i64 m, .pointer none, .pointer none, .pointer none, .int .i64 0] 25)).heap.size = w1.heap.size + 1 := by simp
    generalize (w1.alloc (.cells #[.int .i64 m, .pointer none, .pointer none, .pointer none, .int .i64 0] 25)) = w2 at hP hB hS ⊢
    have D2 : Bx w2 w1.heap.size ⟨m, none, none, none, 0⟩ (Dk.new m) := ⟨hP, DkV.new w2 m h2⟩
    have B2 := b1.trans (hB.mono b1.size)
    have hH : w.heap.size ≤ w1.heap.size := b1.size
    clear b1 hB hS hP
    generalize w1.heap.size = H at *
    rw [HM.out]
    have R3 := read_good ⟨m, none, none, none, 0⟩ (Dk.new m) i w2 D2.d hi
    simp only [DV.v, show ((0 : Nat) : Int) = 0 from rfl] at R3
    rw [show (Dk.new m).cur i = sect 0 0 from zsect] at R3
    refine R3.mono ?_
    clear R3
    rintro e w3 ⟨g3, rfl, hown3, b3⟩
    have D3 := D2.keep b3
    have B3 := B2.trans (b3.mono B2.size)
    have HG := hid (show H < g3 from Nat.lt_of_lt_of_le D2.k.lt (hown3.lt g3 rfl).1)
    clear D2 b3
    obtain ⟨x0, x1, x2, x3, x4⟩ := D3.k.c5
    go_wp2_with fail
    have R4 := sectors_any ⟨m, none, none, none, 0⟩ w3
    simp only [DV.v, show ((0 : Nat) : Int) = 0 from rfl] at R4
    refine R4.mono ?_
    clear R4
    rintro e w4 ⟨rfl, b4⟩
    have D4 := D3.keep b4
    have B4 := B3.trans (b4.mono B3.size)
    have own4 := own_below hown3 b4
    clear D3 b4 hown3 x0 x1 x2 x3 x4
    go_wp2_with fail
    refine (sector_any 0 0 w4).mono ?_
    rintro e w5 ⟨v5, rfl, hown5, b5⟩
    obtain ⟨A5, c5, rfl, r5, _, _⟩ := own_form hown5
    have D5 := D4.keep b5
    have B5 := B4.trans (b5.mono B4.size)
    have own5 := own_below own4 b5
    clear D4 b5 hown5 own4
    go_wp2_with fail
    refine (equal_same _ _ _ _ _ _ _ _ (show RB w5 _ 128 (sect 0 0) from RL.of_own own5) r5).mono ?_
    rintro e w6 ⟨rfl, rfl⟩
    obtain ⟨g', hA', _, hgl, hc0, hf0, hset⟩ := own_set own5 (k := 0) (by omega)
    cases hA'
    have hc0' : w5.cell? ⟨g3, 0, none⟩ = some (.int .u8 (N8 0)) := hc0.trans (by rfl)
    clear hc0
    obtain ⟨x0, x1, x2, x3, x4⟩ := D5.k.c5
    have hne1 : ¬ g3 = H := by have := HG.out; omega
    have hne2 : ¬ H = g3 := fun h => hne1 h.symm
    go_wp2_with fail
    clear x0 x1 x2 x3 x4
    obtain ⟨_, g6⟩ := hset (.int .u8 9)
    have hk3 : ∃ cs, Blk w5 g3 5 cs := ⟨_, own_blk own5⟩
    obtain ⟨cs3, k3⟩ := hk3
    have D6 : Bx (w5.setCell ⟨g3, 0, none⟩ (.int .u8 9)) H ⟨m, none, none, none, 0⟩ (Dk.new m) := D5.other k3 notU8 g6 (by have := HG.out; omega)
    have B6 := B5.grown g6 B5.size (fun q hq => by cases hq; have := HG.out; omega)
    clear D5 B5 hset own5 hf0 hc0' r5 g6 k3
    generalize w5.setCell ⟨g3, 0, none⟩ (.int .u8 9) = w6 at *
    have R7 := read_good ⟨m, none, none, none, 0⟩ (Dk.new m) i w6 D6.d hi
    simp only [DV.v, show ((0 : Nat) : Int) = 0 from rfl] at R7
    rw [show (Dk.new m).cur i = sect 0 0 from zsect] at R7
    refine R7.mono ?_
    clear R7
    rintro e w7 ⟨g7, rfl, hown7, b7⟩
    have B7 := B6.trans (b7.mono B6.size)
    go_wp2_with fail
    refine (awake_any w7).mono ?_
    rintro e w8 ⟨rfl, b8⟩
    have own8 := own_below hown7 b8
    obtain ⟨g', hA', _, _, hc8, _, _⟩ := own_set own8 (k := 0) (by omega)
    cases hA'
    have hc8' : w8.cell? ⟨g7, 0, none⟩ = some (.int .u8 (N8 0)) := hc8.trans (by rfl)
    clear hc8
    go_wp2_with fail
    go_ret
    exact ⟨rfl, B7.trans (b8.mono B7.size)⟩
end Go.Proofs.Ythpalmncfcahkaa
