/- Sectors as one string of bytes. No program in sight. -/
import Derived.Test.YtlokfndonjldpaaDoorWalP
set_option linter.unusedSimpArgs false
set_option linter.unusedVariables false
namespace Go.Proofs.YtlokfndonjldpaaDoor

theorem flat_len : ∀ {fs : List (List UInt8)}, (∀ s ∈ fs, s.length = 128) → fs.flatten.length = 128 * fs.length
  | [], _ => rfl
  | s :: r, h => by
    rw [List.flatten_cons, List.length_append, h s (List.mem_cons_self ..), flat_len (fun x hx => h x (List.mem_cons_of_mem _ hx)), List.length_cons]
    omega
theorem flat_drop : ∀ {fs : List (List UInt8)} (j : Nat), (∀ s ∈ fs, s.length = 128) → fs.flatten.drop (128 * j) = (fs.drop j).flatten
  | [], j, _ => by simp
  | s :: r, 0, _ => by simp
  | s :: r, j + 1, h => by
    have h1 := h s (List.mem_cons_self ..)
    rw [List.flatten_cons, List.drop_succ_cons, ← flat_drop j (fun x hx => h x (List.mem_cons_of_mem _ hx)), List.drop_append, List.drop_eq_nil_of_le (by omega), List.nil_append]
    congr 1
    omega
theorem flat_take' : ∀ {fs : List (List UInt8)} (j : Nat), (∀ s ∈ fs, s.length = 128) → fs.flatten.take (128 * j) = (fs.take j).flatten
  | [], j, _ => by simp
  | s :: r, 0, _ => by simp
  | s :: r, j + 1, h => by
    have h1 := h s (List.mem_cons_self ..)
    rw [List.flatten_cons, List.take_succ_cons, List.flatten_cons, ← flat_take' j (fun x hx => h x (List.mem_cons_of_mem _ hx)), List.take_append, List.take_of_length_le (by omega)]
    congr 2
    omega
theorem flat_inj : ∀ {fs gs : List (List UInt8)}, (∀ s ∈ fs, s.length = 128) → (∀ s ∈ gs, s.length = 128) → fs.flatten = gs.flatten → fs = gs
  | [], [], _, _, _ => rfl
  | [], s :: r, _, h, e => by
    have := congrArg List.length e
    rw [List.flatten_cons, List.length_append, h s (List.mem_cons_self ..)] at this
    have h0 : ([] : List (List UInt8)).flatten.length = 0 := rfl
    omega
  | s :: r, [], h, _, e => by
    have := congrArg List.length e
    rw [List.flatten_cons, List.length_append, h s (List.mem_cons_self ..)] at this
    have h0 : ([] : List (List UInt8)).flatten.length = 0 := rfl
    omega
  | s :: r, t :: q, h, h', e => by
    have h1 := h s (List.mem_cons_self ..)
    have h2 := h' t (List.mem_cons_self ..)
    rw [List.flatten_cons, List.flatten_cons] at e
    have e1 := List.append_inj e (by rw [h1, h2])
    rw [e1.1, flat_inj (fun x hx => h x (List.mem_cons_of_mem _ hx)) (fun x hx => h' x (List.mem_cons_of_mem _ hx)) e1.2]
/-- a place in a sector -/
theorem flat_in {fs : List (List UInt8)} (h : ∀ s ∈ fs, s.length = 128) {j : Nat} {s : List UInt8} (hs : fs[j]? = some s) (o k : Nat) (hk : o + k ≤ 128) : (fs.flatten.drop (128 * j + o)).take k = (s.drop o).take k := by
  have hl := h s (List.mem_of_getElem? hs)
  obtain ⟨hlt, he⟩ := List.getElem?_eq_some_iff.1 hs
  rw [← List.drop_drop, flat_drop j h, List.drop_eq_getElem_cons hlt, he, List.flatten_cons, List.drop_append_of_le_length (by omega), List.take_append_of_le_length (by simp; omega)]
end Go.Proofs.YtlokfndonjldpaaDoor
