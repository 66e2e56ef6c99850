/- Two writes to different sectors, either way round. Conditions: none. -/
import Derived.Test.YthpalmncfcahkaaDoes
import Derived.Test.YthpalmncfcahkaaEqual
set_option linter.unusedSimpArgs false
set_option linter.unusedVariables false
namespace Go.Proofs.Ythpalmncfcahkaa
open Go.RowKit

/-- what do makes of an act that writes -/
theorem doK_zero (D : Dk) (at_ : Int) (a b : UInt8) (ch : Nat) : doK D ⟨0, at_, a, b, ch⟩ = if 0 ≤ at_ ∧ at_ < D.n then D.write at_.toNat (sect a b) else D := by
  unfold doK
  rw [if_neg (show ¬ (0 : Nat) % 8 = 6 by decide), if_neg (show ¬ (0 : Nat) % 8 = 7 by decide), if_neg (show ¬ (0 : Nat) % 8 = 5 by decide)]
theorem comm_W (q : Nat) (p r : Int) (a b c d : UInt8) (x y : Nat) :
    (doK (doK (Dk.new q) ⟨0, p, a, b, x⟩) ⟨0, r, c, d, y⟩).W.length = (doK (doK (Dk.new q) ⟨0, r, c, d, y⟩) ⟨0, p, a, b, x⟩).W.length := by
  simp only [doK_zero]
  by_cases h1 : 0 ≤ p ∧ p < q <;> by_cases h2 : 0 ≤ r ∧ r < q <;> simp [Dk.new, Dk.write, h1, h2]
theorem comm_cur (q : Nat) (p r : Int) (hne : p ≠ r) (a b c d : UInt8) (x y : Nat) (i : Nat) :
    (doK (doK (Dk.new q) ⟨0, p, a, b, x⟩) ⟨0, r, c, d, y⟩).cur i = (doK (doK (Dk.new q) ⟨0, r, c, d, y⟩) ⟨0, p, a, b, x⟩).cur i := by
  simp only [doK_zero]
  by_cases h1 : 0 ≤ p ∧ p < q
  · by_cases h2 : 0 ≤ r ∧ r < q
    · rw [if_pos (show 0 ≤ p ∧ p < ((Dk.new q).n : Int) from h1), if_pos (show 0 ≤ r ∧ r < ((Dk.new q).n : Int) from h2), if_pos (show 0 ≤ r ∧ r < (((Dk.new q).write p.toNat (sect a b)).n : Int) from h2), if_pos (show 0 ≤ p ∧ p < (((Dk.new q).write r.toNat (sect c d)).n : Int) from h1)]
      simp only [Dk.cur_write, upd]
      by_cases e1 : i = r.toNat
      · rw [if_pos e1, if_neg (by omega), if_pos e1]
      · rw [if_neg e1]
        by_cases e2 : i = p.toNat
        · rw [if_pos e2, if_pos e2]
        · rw [if_neg e2, if_neg e2, if_neg e1]
    · rw [if_pos (show 0 ≤ p ∧ p < ((Dk.new q).n : Int) from h1), if_neg (show ¬ (0 ≤ r ∧ r < ((Dk.new q).n : Int)) from h2), if_neg (show ¬ (0 ≤ r ∧ r < (((Dk.new q).write p.toNat (sect a b)).n : Int)) from h2), if_pos (show 0 ≤ p ∧ p < ((Dk.new q).n : Int) from h1)]
  · rw [if_neg (show ¬ (0 ≤ p ∧ p < ((Dk.new q).n : Int)) from h1)]
    by_cases h2 : 0 ≤ r ∧ r < q
    · rw [if_pos (show 0 ≤ r ∧ r < ((Dk.new q).n : Int) from h2), if_neg (show ¬ (0 ≤ p ∧ p < (((Dk.new q).write r.toNat (sect c d)).n : Int)) from h1)]
    · rw [if_neg (show ¬ (0 ≤ r ∧ r < ((Dk.new q).n : Int)) from h2), if_neg (show ¬ (0 ≤ p ∧ p < ((Dk.new q).n : Int)) from h1)]
theorem comm_same (q : Nat) (p r : Int) (hne : p ≠ r) (a b c d : UInt8) (x y : Nat) :
    (doK (doK (Dk.new q) ⟨0, p, a, b, x⟩) ⟨0, r, c, d, y⟩).sync.same (doK (doK (Dk.new q) ⟨0, r, c, d, y⟩) ⟨0, p, a, b, x⟩).sync :=
  ⟨by show (doK _ _).n = (doK _ _).n; rw [doK_n, doK_n, doK_n, doK_n], rfl, fun i _ => comm_cur q p r hne a b c d x y i⟩
end Go.Proofs.Ythpalmncfcahkaa
