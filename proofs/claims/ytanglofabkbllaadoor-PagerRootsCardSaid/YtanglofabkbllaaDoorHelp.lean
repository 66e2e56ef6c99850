/- bytes.Equal, the law's same, the example of the chapter. Conditions: those of each theorem. -/
import Derived.Test.YtanglofabkbllaaDoorRefEnc2
import Derived.Test.YtanglofabkbllaaDoorEncBad
set_option linter.unusedSimpArgs false
set_option linter.unusedVariables false
namespace Go.Proofs.YtanglofabkbllaaDoor
open Go.RowKit

theorem equal_any (A B : Option Addr) (n c m d : Nat) (l r : List UInt8) (w : World) (ha : RB w A n l) (hb : RB w B m r) :
    Calls Tryd.prog 28 #[.slice A n c, .slice B m d] w fun e w' => e = .returned (.bool (l == r)) ∧ w = w' := by
  have k1 := run_str ha 40 9 5 c Tryd.underlying40 Tryd.underlying5 Tryd.underlying9
  have k2 := run_str hb 40 9 5 d Tryd.underlying40 Tryd.underlying5 Tryd.underlying9
  go_enter Tryd.func28, Tryd.ntmps28
  go_wp2_with fail
  go_ret
  exact ⟨rfl, rfl⟩

theorem awake_take : (encoded 5 258 1 [9, 9]).take 23 = [79, 80, 71, 49, 5, 0, 0, 0, 2, 1, 0, 0, 0, 0, 0, 0, 1, 0, 2, 0, 9, 9, 0] := by
  unfold encoded sealed
  rw [List.take_append_of_le_length (by rw [plainPage_len (by decide)]; omega)]
  rfl
/-- a page as a value, and what it reads as -/
structure Pg where
  (id : Int) (stamp : Nat) (kind : Int) (A : Option Addr) (n c : Nat) (l : List UInt8)
def Pg.v (p : Pg) : Value := pageV p.id p.stamp p.kind p.A p.n p.c
def Pg.cs (p : Pg) : List Value := [.int .i64 p.id, .int .u64 p.stamp, .int .i64 p.kind, .slice p.A p.n p.c]
structure Pg.ok (W : World) (p : Pg) : Prop where
  rb : RB W p.A p.n p.l
  nc : p.n ≤ p.c
  cm : p.c ≤ 9223372036854775807
  s : p.stamp < 18446744073709551616
  i0 : -9223372036854775808 ≤ p.id
  i1 : p.id ≤ 9223372036854775807
  k0 : -9223372036854775808 ≤ p.kind
  k1 : p.kind ≤ 9223372036854775807
theorem Pg.ok.below {W W' : World} {p : Pg} (h : p.ok W) (hb : Below W.heap.size W W') : p.ok W' := ⟨h.rb.below hb, h.nc, h.cm, h.s, h.i0, h.i1, h.k0, h.k1⟩
theorem right_of {id kind : Int} {n : Nat} (h : wrong id kind n = 0) : ∃ i k : Nat, id = i ∧ kind = k ∧ i ≤ 2147483647 ∧ k ≤ 255 ∧ n ≤ 1000 := by
  unfold wrong at h
  split at h
  · cases h
  · split at h
    · cases h
    · split at h
      · cases h
      · exact ⟨id.toNat, kind.toNat, by omega, by omega, by omega, by omega, by omega⟩
end Go.Proofs.YtanglofabkbllaaDoor
