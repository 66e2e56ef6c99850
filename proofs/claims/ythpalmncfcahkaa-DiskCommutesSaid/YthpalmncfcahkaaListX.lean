/- Small facts on lists. No program in sight. -/
set_option linter.unusedVariables false
namespace Go.Proofs.Ythpalmncfcahkaa
theorem drop_one {α : Type} {l : List α} {q : Nat} {x : α} (h : l[q]? = some x) : l.drop q = x :: l.drop (q + 1) := by
  obtain ⟨h1, h2⟩ := List.getElem?_eq_some_iff.1 h
  rw [List.drop_eq_getElem_cons h1, h2]
end Go.Proofs.Ythpalmncfcahkaa
