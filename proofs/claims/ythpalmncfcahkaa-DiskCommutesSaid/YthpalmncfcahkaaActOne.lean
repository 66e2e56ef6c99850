/- An act as an argument by value. Conditions: none. -/
import Derived.Test.YthpalmncfcahkaaActOpen
set_option linter.unusedSimpArgs false
set_option linter.unusedVariables false
namespace Go.Proofs.Ythpalmncfcahkaa
open Go.ChangeShapes Go.WideShapes Go.ChangeAt Go.RowKit Go.Joins
set_option maxRecDepth 100000
theorem open_act {H : Type} {enc : TypeId × Value → H} {W : World} {r : Reach} {b0 base : Nat} {sp : Nat → Bool} {held : Bool} {v : Value} {d : DataW H} {p : List MemPlace}
    (hv : Value.okWide Try.prog W r b0 53 v) (h : DataW.Trod enc Try.prog W base sp held 53 v d p) : ∃ x : Ac, v = x.v ∧ x.ok := by
  obtain ⟨cs, rfl, hsz⟩ := okWide_struct Try.underlying53 hv
  obtain ⟨fuel, hf⟩ := h
  obtain ⟨p, hp, hok⟩ := act_el W fuel _ _ (by simp [Value.cells, hsz, cellI.2.2.2]) hf
  refine ⟨p, ?_, hok⟩
  simp only [Value.cells] at hp
  cases cs with
  | mk l => simp only at hp; subst hp; rfl
end Go.Proofs.Ythpalmncfcahkaa
