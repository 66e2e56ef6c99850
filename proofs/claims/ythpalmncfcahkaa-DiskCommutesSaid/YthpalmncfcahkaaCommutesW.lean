/- The walk of DiskCommutes, every argument. Conditions: the acts read. -/
import Derived.Test.YthpalmncfcahkaaCommutes
set_option linter.unusedSimpArgs false
set_option linter.unusedVariables false
namespace Go.Proofs.Ythpalmncfcahkaa
open Go.RowKit

set_option maxRecDepth 100000 in
set_option maxHeartbeats 4000000 in
theorem commutes_walk (n : Int) (x y : Ac) (w : World) (hx : x.ok) (hy : y.ok) :
    Calls Try.prog 8 #[.int .i64 n, x.v, y.v] w fun e w' => e = .returned (.bool true) ∧ Below w.heap.size w w' := by
  obtain ⟨act1, p, a1, b1, c1⟩ := x
  obtain ⟨act2, r, a2, b2, c2⟩ := y
  by_cases hb : n < 1 ∨ 12 < n
  · unfold Ac.v
    go_enter Try.func8, Try.ntmps8
    go_wp2_with fail
    generalize hw3 : World.alloc (World.alloc w _) _ = v3
    obtain ⟨A1, A2, B⟩ := two_boxes_r (cs1 := (⟨act1, p, a1, b1, c1⟩ : Ac).cs) (cs2 := (⟨act2, r, a2, b2, c2⟩ : Ac).cs) hw3
    clear hw3
    refine (few_no n none 0 0 v3 (by omega)).mono ?_
    rintro e w' ⟨rfl, rfl⟩
    go_wp2_with fail
    refine (awake_any _).mono ?_
    rintro e w1 ⟨rfl, bb⟩
    go_wp2_with fail
    go_ret
    exact ⟨rfl, B.trans (bb.mono B.size)⟩
  · obtain ⟨q, rfl⟩ : ∃ q : Nat, n = q := ⟨n.toNat, by omega⟩
    by_cases hpr : p = r
    · subst hpr
      have h3 : (p == p) = true := beq_self_eq_true _
      unfold Ac.v
      go_enter Try.func8, Try.ntmps8
      go_wp2_with fail
      generalize hw3 : World.alloc (World.alloc w _) _ = v3
      obtain ⟨A1, A2, B⟩ := two_boxes_r (cs1 := (⟨act1, p, a1, b1, c1⟩ : Ac).cs) (cs2 := (⟨act2, p, a2, b2, c2⟩ : Ac).cs) hw3
      clear hw3
      refine (few_yes q none 0 0 v3 (by omega) (by omega) (by omega)).mono ?_
      rintro e w' ⟨rfl, rfl⟩
      obtain ⟨x0, x1, x2, x3, x4⟩ := A1.c5
      obtain ⟨y0, y1, y2, y3, y4⟩ := A2.c5
      go_wp2_with fail
      refine (awake_any _).mono ?_
      rintro e w1 ⟨rfl, bb⟩
      go_wp2_with fail
      go_ret
      exact ⟨rfl, B.trans (bb.mono B.size)⟩
    · exact commutes_go q act1 p a1 b1 c1 act2 r a2 b2 c2 w (by omega) (by omega) hpr ⟨Nat.zero_le _, hx.l, hx.h, hx.ch⟩ ⟨Nat.zero_le _, hy.l, hy.h, hy.ch⟩
end Go.Proofs.Ythpalmncfcahkaa
