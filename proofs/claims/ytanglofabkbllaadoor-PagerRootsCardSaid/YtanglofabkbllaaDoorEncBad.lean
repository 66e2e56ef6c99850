/- Encode of package page, where the page is wrong. Conditions: none. -/
import Derived.Test.YtanglofabkbllaaDoorEncode
set_option linter.unusedSimpArgs false
set_option linter.unusedVariables false
namespace Go.Proofs.YtanglofabkbllaaDoor
open Go.RowKit

theorem encode_bad (id kind : Int) (stamp : Nat) (A : Option Addr) (n c : Nat) (w : World) (hn : n ≤ 9223372036854775807) (hw : wrong id kind n ≠ 0) :
    Calls Tryd.prog 36 #[pageV id stamp kind A n c] w fun e w' => e = .returned (.tuple #[.slice none 0 0, .int .i64 (wrong id kind n)]) ∧ Below w.heap.size w w' := by
  unfold pageV
  unfold wrong at *
  by_cases d1 : id < 0
  · rw [if_pos (.inl d1)]
    clear hw
    go_enter Tryd.func36, Tryd.ntmps36
    go_wp2_with fail
    go_ret2
    exact ⟨rfl, (Below.refl _ _).alloc (Nat.le_refl _) _⟩
  by_cases d2 : id > 2147483647
  · rw [if_pos (.inr d2)]
    clear hw
    go_enter Tryd.func36, Tryd.ntmps36
    go_wp2_with fail
    go_ret2
    exact ⟨rfl, (Below.refl _ _).alloc (Nat.le_refl _) _⟩
  rw [if_neg (by omega)] at *
  by_cases d3 : kind < 0
  · rw [if_pos (.inl d3)]
    clear hw
    go_enter Tryd.func36, Tryd.ntmps36
    go_wp2_with fail
    go_ret2
    exact ⟨rfl, (Below.refl _ _).alloc (Nat.le_refl _) _⟩
  by_cases d4 : kind > 255
  · rw [if_pos (.inr d4)]
    clear hw
    go_enter Tryd.func36, Tryd.ntmps36
    go_wp2_with fail
    go_ret2
    exact ⟨rfl, (Below.refl _ _).alloc (Nat.le_refl _) _⟩
  rw [if_neg (by omega)] at *
  by_cases d5 : n > 1000
  · rw [if_pos d5]
    clear hw
    have d6 : (n : Int) > 1000 := by omega
    go_enter Tryd.func36, Tryd.ntmps36
    go_wp2_with fail
    go_ret2
    exact ⟨rfl, (Below.refl _ _).alloc (Nat.le_refl _) _⟩
  · exact absurd (if_neg (by omega)) hw
end Go.Proofs.YtanglofabkbllaaDoor
