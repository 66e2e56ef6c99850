/- slices.Reverse at the list of writes, walked. Conditions: the row is the call's own or its caller's. -/
import Derived.Test.YthpalmncfcahkaaDisk
import Derived.Handy
set_option linter.unusedSimpArgs false
set_option linter.unusedVariables false
namespace Go.Proofs.Ythpalmncfcahkaa
open Go.RowKit

/-- the first k and the last k exchanged -/
def rv (xs : List Value) (k : Nat) : List Value := (List.range xs.length).map fun p => if p < k ∨ xs.length - k ≤ p then xs.getD (xs.length - 1 - p) undef else xs.getD p undef
theorem rv_len (xs : List Value) (k : Nat) : (rv xs k).length = xs.length := by simp [rv]
theorem rv_at (xs : List Value) (k p : Nat) (hp : p < xs.length) : (rv xs k)[p]? = some (if p < k ∨ xs.length - k ≤ p then xs.getD (xs.length - 1 - p) undef else xs.getD p undef) := by simp [rv, hp]
theorem rv_zero (xs : List Value) : rv xs 0 = xs := by
  apply List.ext_getElem?
  intro p
  by_cases hp : p < xs.length
  · rw [rv_at _ _ _ hp, if_neg (by omega), List.getD_eq_getElem?_getD, List.getElem?_eq_getElem hp]; rfl
  · rw [List.getElem?_eq_none (by rw [rv_len]; omega), List.getElem?_eq_none (by omega)]
theorem rv_end (xs : List Value) (k : Nat) (hk : xs.length ≤ 2 * k + 1) : rv xs k = xs.reverse := by
  apply List.ext_getElem?
  intro p
  by_cases hp : p < xs.length
  · rw [rv_at _ _ _ hp, List.getElem?_reverse hp, List.getD_eq_getElem?_getD, List.getD_eq_getElem?_getD, List.getElem?_eq_getElem (show xs.length - 1 - p < xs.length by omega), List.getElem?_eq_getElem hp]
    split
    · rfl
    · have : xs.length - 1 - p = p := by omega
      simp only [Option.getD_some, this]
  · rw [List.getElem?_eq_none (by rw [rv_len]; omega), List.getElem?_eq_none (by rw [List.length_reverse]; omega)]
theorem rv_next (xs : List Value) (k : Nat) (hk : 2 * k + 1 < xs.length) (x y : Value) (hx : (rv xs k)[k]? = some x) (hy : (rv xs k)[xs.length - 1 - k]? = some y) :
    ((rv xs k).set k y).set (xs.length - 1 - k) x = rv xs (k + 1) := by
  rw [rv_at _ _ _ (by omega), if_neg (by omega)] at hx hy
  apply List.ext_getElem?
  intro p
  rw [List.getElem?_set, List.length_set, rv_len, List.getElem?_set, rv_len]
  by_cases hp : p < xs.length
  · rw [rv_at _ (k + 1) _ hp]
    by_cases h1 : xs.length - 1 - k = p
    · rw [if_pos h1, if_pos (by omega), if_pos (by omega), ← hx]
      congr 2
      omega
    · rw [if_neg h1]
      by_cases h2 : k = p
      · rw [if_pos h2, if_pos (by omega), if_pos (by omega), ← hy]
        congr 2
        omega
      · rw [if_neg h2, rv_at _ _ _ hp]
        by_cases h3 : p < k ∨ xs.length - k ≤ p
        · rw [if_pos h3, if_pos (by omega)]
        · rw [if_neg h3, if_neg (by omega)]
  · rw [List.getElem?_eq_none (by rw [rv_len]; omega), if_neg (by omega), if_neg (by omega), List.getElem?_eq_none (by rw [rv_len]; omega)]

set_option maxRecDepth 100000 in
set_option maxHeartbeats 1000000 in
theorem rev_any (base : Nat) (A : Option Addr) (n c : Nat) (xs : List Value) (w : World) (hown : w.ownsRow base 23 1 (.slice A n c) n xs) (hbase : base ≤ w.heap.size) (hp : ∀ v ∈ xs, ∃ p, v = .pointer p) :
    Calls Try.prog 35 #[.slice A n c] w fun e w' => e = .returned (.tuple #[]) ∧ w'.ownsRow base 23 1 (.slice A n c) n xs.reverse ∧ Below base w w' := by
  have HL : Hid (xs.length = n) := by have := hown.1; show _ = _; omega
  have hn : n ≤ 9223372036854775807 := by
    obtain ⟨A', c', e, _, h1, h2⟩ := own_form hown
    cases e
    omega
  go_enter Try.func35, Try.ntmps35
  go_wp2_with fail
  go_loopw [2, 3] (fun i j wr => ∃ k : Nat, i = .int .i64 k ∧ j = .int .i64 ((n : Int) - 1 - k) ∧ k ≤ n ∧ 2 * k ≤ n + 1 ∧ wr.ownsRow base 23 1 (.slice A n c) n (rv xs k) ∧ Below base w wr) (fun i j _ => (intOf j + 1 - intOf i).toNat)
  case atStart =>
    refine ⟨0, rfl, ?_, Nat.zero_le _, by omega, by rw [rv_zero]; exact hown, Below.refl _ _⟩
    congr 1
    omega
  case round =>
    obtain ⟨k, rfl, rfl, hk, hk2, hown2, hbel⟩ := hrel
    by_cases hlt : 2 * k + 1 < n
    · have hlt2 : (k : Int) < (n : Int) - 1 - k := by omega
      obtain ⟨g, rfl, hg, hgl, x1, f1, s1⟩ := own_set hown2 (k := k) (by omega)
      obtain ⟨g', eg, _, _, x2, f2, s2⟩ := own_set hown2 (k := n - 1 - k) (by omega)
      cases eg
      obtain ⟨x, hx⟩ : ∃ x, (rv xs k)[k]? = some x := ⟨_, List.getElem?_eq_getElem (by rw [rv_len, HL.out]; omega)⟩
      obtain ⟨y, hy⟩ : ∃ y, (rv xs k)[n - 1 - k]? = some y := ⟨_, List.getElem?_eq_getElem (by rw [rv_len, HL.out]; omega)⟩
      have hpx : ∃ p, x = .pointer p := by
        rw [rv_at _ _ _ (by rw [HL.out]; omega), HL.out, if_neg (by omega), List.getD_eq_getElem?_getD, List.getElem?_eq_getElem (by rw [HL.out]; omega)] at hx
        exact hp x (by rw [← Option.some.inj hx]; exact List.getElem_mem _)
      have hpy : ∃ p, y = .pointer p := by
        rw [rv_at _ _ _ (by rw [HL.out]; omega), HL.out, if_neg (by omega), List.getD_eq_getElem?_getD, List.getElem?_eq_getElem (by rw [HL.out]; omega)] at hy
        exact hp y (by rw [← Option.some.inj hy]; exact List.getElem_mem _)
      obtain ⟨px, rfl⟩ := hpx
      obtain ⟨py, rfl⟩ := hpy
      rw [hx] at x1
      rw [hy] at x2
      have HX := hid hx
      have HY := hid hy
      have HS1 := hid s1
      clear s1 s2 hx hy
      have i1 : (0 : Int) ≤ (k : Int) := by omega
      have i2 : (k : Int) < (n : Int) := by omega
      have i3 : (0 : Int) ≤ (n : Int) - 1 - k := by omega
      have i4 : (n : Int) - 1 - k < (n : Int) := by omega
      have i5 : ((n : Int) - 1 - k).toNat = n - 1 - k := by omega
      have i6 : (k : Int) ≤ (n : Int) - 1 := by omega
      have HP := hid hp
      clear hp
      have ne : ¬ k = n - 1 - k := by omega
      have ne2 : ¬ n - 1 - k = k := by omega
      go_wp2_with fail
      go_region
      have S1 := hid (HS1.out (.pointer py))
      have S2 := hid (S1.out.1.stored (n - 1 - k) (.pointer px))
      have HN := hid (rv_next xs k (by rw [HL.out]; exact hlt) _ _ HX.out (by rw [HL.out]; exact HY.out))
      clear i1 i2 i3 i4 i5 i6 ne ne2 x1 x2 f1 f2
      go_wp2_with fail
      go_roundw
      case rel =>
        refine ⟨k + 1, by go_num, ?_, by omega, by omega, ?_, ?_⟩
        · congr 1
          omega
        · rw [← HN.out, HL.out]
          exact S2.out.1
        · exact ((hbel.grown S1.out.2 (by omega) (fun q hq => by cases hq; exact hg)).grown S2.out.2 (by have := S1.out.2.size; omega) (fun q hq => by cases hq; exact hg)).drew
      case measure => simp [intOf]; omega
    · have hlt2 : ¬ (k : Int) < (n : Int) - 1 - k := by omega
      go_wp2_with fail
      go_returns
      rw [rv_end _ _ (by rw [HL.out]; omega)] at hown2
      exact ⟨rfl, hown2, hbel⟩
end Go.Proofs.Ythpalmncfcahkaa
