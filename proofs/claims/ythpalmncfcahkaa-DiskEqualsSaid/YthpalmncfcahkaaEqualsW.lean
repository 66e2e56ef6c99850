/- The walk of DiskEquals, every argument. Conditions: the acts read. -/
import Derived.Test.YthpalmncfcahkaaEquals
set_option linter.unusedSimpArgs false
set_option linter.unusedVariables false
namespace Go.Proofs.Ythpalmncfcahkaa
open Go.RowKit

set_option maxRecDepth 100000 in
set_option maxHeartbeats 4000000 in
theorem equals_walk (n : Int) (A1 : Option Addr) (m1 c1 : Nat) (X1 : List Ac) (A2 : Option Addr) (m2 c2 : Nat) (X2 : List Ac) (w : World)
    (hX1 : X1.length = m1) (hr1 : RL w 5 A1 m1 (X1.flatMap Ac.cs)) (hok1 : ∀ x ∈ X1, x.ok) (hc1 : m1 ≤ c1) (hd1 : c1 ≤ 9223372036854775807)
    (hX2 : X2.length = m2) (hr2 : RL w 5 A2 m2 (X2.flatMap Ac.cs)) (hok2 : ∀ x ∈ X2, x.ok) (hc2 : m2 ≤ c2) (hd2 : c2 ≤ 9223372036854775807) :
    Calls Try.prog 7 #[.int .i64 n, .slice A1 m1 c1, .slice A2 m2 c2] w fun e w' => e = .returned (.bool true) ∧ Below w.heap.size w w' := by
  have hL1 : Hid (RL w 5 A1 m1 (X1.flatMap Ac.cs) ∧ (∀ x ∈ X1, x.ok) ∧ X1.length = m1) := ⟨hr1, hok1, hX1⟩
  have hL2 : Hid (RL w 5 A2 m2 (X2.flatMap Ac.cs) ∧ (∀ x ∈ X2, x.ok) ∧ X2.length = m2) := ⟨hr2, hok2, hX2⟩
  clear hr1 hok1 hX1 hr2 hok2 hX2
  by_cases hb1 : n < 1 ∨ 12 < n ∨ 60 < m1
  · clear hL1 hL2
    go_enter Try.func7, Try.ntmps7
    go_wp2_with fail
    refine (few_no n A1 m1 c1 w hb1).mono ?_
    rintro e w' ⟨rfl, rfl⟩
    go_wp2_with fail
    refine (awake_any w).mono ?_
    rintro e w1 ⟨rfl, b1⟩
    go_wp2_with fail
    go_ret
    exact ⟨rfl, b1⟩
  · obtain ⟨q, rfl⟩ : ∃ q : Nat, n = q := ⟨n.toNat, by omega⟩
    by_cases hb2 : 60 < m2
    · clear hL1 hL2
      go_enter Try.func7, Try.ntmps7
      go_wp2_with fail
      refine (few_yes q A1 m1 c1 w (by omega) (by omega) (by omega)).mono ?_
      rintro e w' ⟨rfl, rfl⟩
      go_wp2_with fail
      refine (few_no q A2 m2 c2 w (.inr (.inr hb2))).mono ?_
      rintro e w' ⟨rfl, rfl⟩
      go_wp2_with fail
      refine (awake_any w).mono ?_
      rintro e w1 ⟨rfl, b1⟩
      go_wp2_with fail
      go_ret
      exact ⟨rfl, b1⟩
    · exact equals_go q A1 m1 c1 X1 A2 m2 c2 X2 w (by omega) (by omega) (by omega) (by omega) hL1 hL2 hc1 hd1 hc2 hd2
end Go.Proofs.Ythpalmncfcahkaa
