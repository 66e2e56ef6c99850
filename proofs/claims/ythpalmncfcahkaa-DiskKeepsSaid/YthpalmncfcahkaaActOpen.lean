/- The arguments of the laws that came in: numbers and acts. Conditions: none. -/
import Derived.Test.YthpalmncfcahkaaEnd
import Derived.Test.YthpalmncfcahkaaDo
import Derived.Lib.SmallJoins
set_option linter.unusedSimpArgs false
set_option linter.unusedVariables false
namespace Go.Proofs.Ythpalmncfcahkaa
open Go.ChangeShapes Go.WideShapes Go.ChangeAt Go.RowKit Go.Joins
set_option maxRecDepth 100000

theorem u8_lim {x : Int} (h : (Lit.int .u8 x).wf = true) : ∃ n : Nat, x = n ∧ n ≤ 255 := by
  have : 0 ≤ x ∧ x ≤ 255 := by simpa [Lit.wf, IntKind.min, IntKind.max, IntKind.signed, IntKind.bits] using h
  exact ⟨x.toNat, by omega, by omega⟩
theorem u64_lim {x : Int} (h : (Lit.int .u64 x).wf = true) : ∃ n : Nat, x = n ∧ n < 18446744073709551616 := by
  have : 0 ≤ x ∧ x ≤ 18446744073709551615 := by simpa [Lit.wf, IntKind.min, IntKind.max, IntKind.signed, IntKind.bits] using h
  exact ⟨x.toNat, by omega, by omega⟩
theorem i16_lim {x : Int} (h : (Lit.int .i16 x).wf = true) : -32768 ≤ x ∧ x ≤ 32767 := by
  simpa [Lit.wf, IntKind.min, IntKind.max, IntKind.signed, IntKind.bits] using h
theorem i64_lim {x : Int} (h : (Lit.int .i64 x).wf = true) : -9223372036854775808 ≤ x ∧ x ≤ 9223372036854775807 := by
  simpa [Lit.wf, IntKind.min, IntKind.max, IntKind.signed, IntKind.bits] using h
theorem N8_of {n : Nat} (h : n ≤ 255) : ∃ b : UInt8, (n : Int) = N8 b := ⟨UInt8.ofNat n, by
  unfold N8
  rw [UInt8.toNat_ofNat']
  omega⟩
theorem cellI : Try.prog.cellsOf 5 = 1 ∧ Try.prog.cellsOf 51 = 1 ∧ Try.prog.cellsOf 38 = 1 ∧ Try.prog.cellsOf 53 = 5 := ⟨by kernel_rfl, by kernel_rfl, by kernel_rfl, by kernel_rfl⟩
section
variable {H : Type} {enc : TypeId × Value → H}
theorem act_el (W : World) {base : Nat} {sp : Nat → Bool} {held : Bool} (n : Nat) (cs : List Value) (y : DataW H × List MemPlace) (hl : cs.length = 5)
    (h : DataW.trod enc Try.prog W base sp held n 53 cs = some y) : ∃ x : Ac, cs = x.cs ∧ x.ok := by
  obtain ⟨q1, q2, q3, q4⟩ := cellI
  obtain ⟨xs, m, _, _, _, hlen, hf⟩ := DataW.trod_struct Try.underlying53 h
  match cs, hl with
  | [c0, c1, c2, c3, c4], _ =>
    match xs, hlen with
    | [y0, y1, y2, y3, y4], _ =>
      have h0 : DataW.trod enc Try.prog W base sp held m 5 [c0] = some y0 := by have := hf 0 _ rfl; simpa [q1] using this
      have h1 : DataW.trod enc Try.prog W base sp held m 51 [c1] = some y1 := by have := hf 1 _ rfl; simpa [q2] using this
      have h2 : DataW.trod enc Try.prog W base sp held m 5 [c2] = some y2 := by have := hf 2 _ rfl; simpa [q1] using this
      have h3 : DataW.trod enc Try.prog W base sp held m 5 [c3] = some y3 := by have := hf 3 _ rfl; simpa [q1] using this
      have h4 : DataW.trod enc Try.prog W base sp held m 38 [c4] = some y4 := by have := hf 4 _ rfl; simpa [q3] using this
      obtain ⟨x0, e0, _, w0⟩ := DataW.trod_int Try.underlying5 h0
      obtain ⟨x1, e1, _, w1⟩ := DataW.trod_int Try.underlying51 h1
      obtain ⟨x2, e2, _, w2⟩ := DataW.trod_int Try.underlying5 h2
      obtain ⟨x3, e3, _, w3⟩ := DataW.trod_int Try.underlying5 h3
      obtain ⟨x4, e4, _, w4⟩ := DataW.trod_int Try.underlying38 h4
      obtain ⟨a, rfl, ha⟩ := u8_lim w0
      obtain ⟨c, rfl, hc⟩ := u64_lim w4
      have b := i16_lim w1
      simp only [List.cons.injEq, and_true] at e0 e1 e2 e3 e4
      subst e0 e1 e2 e3 e4
      refine ⟨⟨a, x1, UInt8.ofNat x2.toNat, UInt8.ofNat x3.toNat, c⟩, ?_, ha, b.1, b.2, hc⟩
      unfold Ac.cs
      rw [← as8 w2, ← as8 w3]
theorem open_acts {W : World} {r : Reach} {b0 base : Nat} {sp : Nat → Bool} {held : Bool} {v : Value} {d : DataW H} {p : List MemPlace}
    (hv : Value.okWide Try.prog W r b0 43 v) (h : DataW.Trod enc Try.prog W base sp held 43 v d p) :
    ∃ (A : Option Addr) (n c : Nat) (X : List Ac), v = .slice A n c ∧ X.length = n ∧ RL W 5 A n (X.flatMap Ac.cs) ∧ (∀ x ∈ X, x.ok) ∧ n ≤ c ∧ c ≤ 9223372036854775807 :=
  open_list 5 (by omega) Ac.cs (fun _ => rfl) Ac.ok Try.underlying43 cellI.2.2.2 (act_el W) hv h
end
end Go.Proofs.Ythpalmncfcahkaa
