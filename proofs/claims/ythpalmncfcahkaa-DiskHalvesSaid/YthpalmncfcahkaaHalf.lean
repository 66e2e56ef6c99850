/- What a crash leaves of one sector. Conditions: none. -/
import Derived.Test.YthpalmncfcahkaaSect
import Derived.Test.YthpalmncfcahkaaCrash
set_option linter.unusedSimpArgs false
set_option linter.unusedVariables false
namespace Go.Proofs.Ythpalmncfcahkaa
open Go.RowKit

/-- a disk of one sector after k numbered writes -/
def hs : Nat → Dk
  | 0 => ((Dk.new 1).write 0 (sect 0 0)).sync
  | k + 1 => (hs k).write 0 (sect (UInt8.ofNat (k + 1)) (UInt8.ofNat (k + 1)))
theorem hs_n : ∀ k, (hs k).n = 1
  | 0 => rfl
  | k + 1 => hs_n k
theorem hs_S : ∀ k, (hs k).S 0 = sect 0 0
  | 0 => rfl
  | k + 1 => hs_S k
theorem hs_W : ∀ k, (hs k).W.length = k
  | 0 => rfl
  | k + 1 => congrArg (· + 1) (hs_W k)
theorem sect_tear (a b c : UInt8) : (sect a a).take 64 ++ (sect b c).drop 64 = sect a c := by
  unfold sect
  rw [List.take_left' (by simp), List.drop_left' (by simp)]
theorem half (ch : Nat) : ∀ k, ∃ x y : Nat, y ≤ x ∧ x ≤ k ∧ crun ch 0 (hs k).S (hs k).W.reverse 0 = sect (UInt8.ofNat x) (UInt8.ofNat y)
  | 0 => ⟨0, 0, Nat.le_refl _, Nat.le_refl _, hs_S 0⟩
  | k + 1 => by
    obtain ⟨x, y, h1, h2, h3⟩ := half ch k
    have e : (hs (k + 1)).W.reverse = (hs k).W.reverse ++ [(0, sect (UInt8.ofNat (k + 1)) (UInt8.ofNat (k + 1)))] := by
      show ((0, sect (UInt8.ofNat (k + 1)) (UInt8.ofNat (k + 1))) :: (hs k).W).reverse = _
      rw [List.reverse_cons]
    rw [e, crun_snoc, show (hs (k + 1)).S = (hs k).S from rfl]
    unfold tear
    split
    · exact ⟨k + 1, k + 1, Nat.le_refl _, Nat.le_refl _, by simp [upd]⟩
    · split
      · refine ⟨k + 1, y, by omega, Nat.le_refl _, ?_⟩
        simp only [upd, if_true]
        rw [h3, sect_tear]
      · exact ⟨x, y, h1, by omega, h3⟩
theorem half_cur (ch k : Nat) : ∃ x y : Nat, y ≤ x ∧ x ≤ k ∧ ((hs k).crash ch).cur 0 = sect (UInt8.ofNat x) (UInt8.ofNat y) := half ch k
end Go.Proofs.Ythpalmncfcahkaa
