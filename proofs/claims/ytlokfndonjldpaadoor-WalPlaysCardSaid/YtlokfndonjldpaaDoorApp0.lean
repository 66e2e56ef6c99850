/- append to an empty slice that is not nil. Conditions: those of each theorem. -/
import Derived.Test.YtlokfndonjldpaaDoorStep
import Derived.Test.YtlokfndonjldpaaDoorSls
set_option linter.unusedSimpArgs false
set_option linter.unusedVariables false
namespace Go.Proofs.YtlokfndonjldpaaDoor
open Go.RowKit

section
variable {P : Program} {ops : Array Oper} {rest : List Oper} {Q : Exit → Act → World → Prop} {a : Act} {w : World}
theorem wp_app_empty {o : Oper} (hgd : o.guard = none) (s x : Operand) (t : TypeId)
    (ho : o.op = .call { callee := .builtin .append, args := #[s, x], argTypes := #[t, t] })
    (e : TypeId) (z : Value) (bytes : Nat) (hT : OneC P t e z bytes)
    (g : Nat) (hs : a.eval s = .slice (some ⟨g, 0, none⟩) 0 0)
    (B : Option Addr) (m c : Nat) (news : List Value) (hr : RL w 1 B m news) (hxv : a.eval x = .slice B m c)
    (h63 : m ≤ maxLen) (hbytes : m * bytes ≤ 140737488355328)
    (h : ∀ A' c' w', RN (fun b => w.heap.size ≤ b) w' 1 A' m news → m ≤ c' → c' ≤ 9223372036854775807 → Below w.heap.size w w' → wpList P ops Q rest (a.put o.dst (.slice A' m c')) w') :
    wpList P ops Q (o :: rest) a w := by
  refine wpList_plain hgd fun K hK => ?_
  obtain ⟨ht, ⟨i, hi, hz, hsize, hby⟩, hzs⟩ := hT
  rcases Nat.eq_zero_or_pos m with h0 | h0
  · subst h0
    obtain rfl : news = [] := List.eq_nil_of_length_eq_zero (by simpa using hr.1)
    have hrun : (Builtin.append_ #[t, t] o.type #[.slice (some ⟨g, 0, none⟩) 0 0, .slice B 0 c]).run P w = .ok (.slice (some ⟨g, 0, none⟩) 0 0) w := by
      cases B with
      | none => simp [Builtin.append_, run_underlying ht, sizeOf, typeInfo, hi, Builtin.lenOf, Builtin.firstCells, storeCells]
      | some b => simp [Builtin.append_, run_underlying ht, sizeOf, typeInfo, hi, Builtin.lenOf, Builtin.firstCells, storeCells, loadCells, loadCellsFrom]
    unfold Oper.wp
    simp only [execOp, ho, resolve, invoke, builtin, Sem.run_bind, Sem.run_pure, Result.andThen_ok, List.map_toArray, List.map_cons, List.map_nil, hs, hxv, hrun]
    exact hK _ _ (h _ 0 _ (RN.nil _ _ _ _) (Nat.le_refl _) (by omega) (Below.refl _ _))
  · obtain ⟨b', off', rfl, hb', hc'⟩ := hr.2 h0
    obtain ⟨v', w', hrun, h2, h3⟩ := run_append_arg_grows (P := P) w t o.type e i z 1 bytes ht hi hz hsize hby hzs (by omega) ⟨g, 0, none⟩ 0 0 [] (by simp) (fun j u hu => by simp at hu) ⟨b', off', none⟩ m c news hr.1 (fun j u hu => by rw [add_spot]; exact hc' j u hu) (by omega) (by omega) (by rw [Nat.zero_add]; exact hbytes)
    rw [Nat.zero_add, List.nil_append] at h2
    obtain ⟨A', c', rfl, _, hc1, hc2⟩ := own_form h2
    unfold Oper.wp
    simp only [execOp, ho, resolve, invoke, builtin, Sem.run_bind, Sem.run_pure, Result.andThen_ok, List.map_toArray, List.map_cons, List.map_nil, hs, hxv, hrun]
    exact hK _ _ (h A' c' w' (RN.own h2 (fun b hb => hb)) hc1 hc2 ((Below.refl _ _).grown h3 (Nat.le_refl _) (fun k hk => by cases hk)))
end
end Go.Proofs.YtlokfndonjldpaaDoor
