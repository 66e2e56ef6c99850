/- append onto an empty slice of the call's own, elements of any size. Conditions: those of the theorem. An act as an argument; how many acts a slice of an argument holds. -/
import Derived.Test.YtanglofabkbllaaDoorStep
import Derived.Test.YtanglofabkbllaaDoorSto
import Derived.Test.YtanglofabkbllaaDoorLaw
import Derived.SizedLaws
set_option linter.unusedSimpArgs false
set_option linter.unusedVariables false
namespace Go.Proofs.YtanglofabkbllaaDoor
open Go.RowKit
section
variable {P : Program} {ops : Array Oper} {rest : List Oper} {Q : Exit → Act → World → Prop} {a : Act} {w : World}
theorem own_mono {base base' : Nat} {e : TypeId} {size : Nat} {v : Value} {n : Nat} {xs : List Value} (h : w.ownsRow base e size v n xs) (hb : base' ≤ base) : w.ownsRow base' e size v n xs :=
  ⟨h.1, h.2.imp id fun ⟨g, cap, cur, h1, h2, h3⟩ => ⟨g, cap, cur, h1, Nat.le_trans hb h2, h3⟩⟩
theorem wp_app_emptyN {o : Oper} (hgd : o.guard = none) (s x : Operand) (t : TypeId)
    (ho : o.op = .call { callee := .builtin .append, args := #[s, x], argTypes := #[t, t] })
    (base : Nat) (e : TypeId) (z : Value) (size bytes : Nat) (hT : ElT P t e z size bytes)
    (g : Nat) (hown : w.ownsRow base e size (.slice (some ⟨g, 0, none⟩) 0 0) 0 []) (hs : a.eval s = .slice (some ⟨g, 0, none⟩) 0 0)
    (B : Option Addr) (m c : Nat) (news : List Value) (hr : RL w size B m news) (hxv : a.eval x = .slice B m c)
    (h63 : m ≤ maxLen) (hbytes : m * bytes ≤ 140737488355328) (hbase : base ≤ w.heap.size)
    (h : ∀ v' w', w'.ownsRow base e size v' m news → Below w.heap.size w w' → wpList P ops Q rest (a.put o.dst v') w') :
    wpList P ops Q (o :: rest) a w := by
  refine wpList_plain hgd fun K hK => ?_
  obtain ⟨ht, ⟨i, hi, hz, hsize, hby⟩, hzs, hsz⟩ := hT
  rcases Nat.eq_zero_or_pos m with h0 | h0
  · subst h0
    obtain rfl : news = [] := List.eq_nil_of_length_eq_zero (by have := hr.1; omega)
    have hrun : (Builtin.append_ #[t, t] o.type #[.slice (some ⟨g, 0, none⟩) 0 0, .slice B 0 c]).run P w = .ok (.slice (some ⟨g, 0, none⟩) 0 0) w := by
      cases B with
      | none => simp [Builtin.append_, run_underlying ht, sizeOf, typeInfo, hi, Builtin.lenOf, Builtin.firstCells, storeCells]
      | some b => simp [Builtin.append_, run_underlying ht, sizeOf, typeInfo, hi, Builtin.lenOf, Builtin.firstCells, storeCells, loadCells, loadCellsFrom]
    unfold Oper.wp
    simp only [execOp, ho, resolve, invoke, builtin, Sem.run_bind, Sem.run_pure, Result.andThen_ok, List.map_toArray, List.map_cons, List.map_nil, hs, hxv, hrun]
    exact hK _ _ (h _ _ hown (Below.refl _ _))
  · obtain ⟨b', off', rfl, hb', hc'⟩ := hr.2 h0
    obtain ⟨v', w', hrun, h2, h3⟩ := run_append_arg_grows (P := P) w t o.type e i z size bytes ht hi hz hsize hby hzs (by omega) ⟨g, 0, none⟩ 0 0 [] (by simp) (fun j u hu => by simp at hu) ⟨b', off', none⟩ m c news hr.1 (fun j u hu => by rw [add_spot]; exact hc' j u hu) (by omega) (by omega) (by rw [Nat.zero_add]; exact hbytes)
    rw [Nat.zero_add, List.nil_append] at h2
    unfold Oper.wp
    simp only [execOp, ho, resolve, invoke, builtin, Sem.run_bind, Sem.run_pure, Result.andThen_ok, List.map_toArray, List.map_cons, List.map_nil, hs, hxv, hrun]
    exact hK _ _ (h v' w' (own_mono h2 hbase) ((Below.refl _ _).grown h3 (Nat.le_refl _) (fun k hk => by cases hk)))
end
theorem actT : ElT Tryd.prog 52 66 (.agg (⟨0, 0, 0, 0, 0⟩ : Ac).cs.toArray) 5 16 :=
  ⟨Tryd.underlying52, info_parts (by kernel_rfl : (Tryd.prog.info? 66).map (fun i => (i.zero, i.size, i.bytes)) = some (some (.agg (⟨0, 0, 0, 0, 0⟩ : Ac).cs.toArray), 5, 16)), rfl, by omega⟩
/-- a row of acts of the call's own -/
def OwnA (b : Nat) (w : World) (v : Value) (m : Nat) (X : List Ac) : Prop := w.ownsRow b 66 5 v m (X.flatMap Ac.cs)
theorem OwnA.keep {b : Nat} {w w' : World} {v : Value} {m : Nat} {X : List Ac} (h : OwnA b w v m X) (hb : Below w.heap.size w w') : OwnA b w' v m X := own_below h hb
theorem OwnA.new (b : Nat) (w : World) (hb : b ≤ w.heap.size) : OwnA b (w.alloc (.cells #[] 66)) (.slice (some ⟨w.heap.size, 0, none⟩) 0 0) 0 [] :=
  ⟨rfl, .inr ⟨w.heap.size, 0, #[], rfl, hb, heap_alloc_new w _, Nat.le_refl _, by unfold maxLen; omega, rfl, rfl⟩⟩
end Go.Proofs.YtanglofabkbllaaDoor
set_option linter.unusedSimpArgs false
set_option linter.unusedVariables false
set_option maxRecDepth 100000
namespace Go.Proofs.YtanglofabkbllaaDoor
open Go.ChangeShapes Go.WideShapes Go.ChangeAt Go.RowKit
section
variable {H : Type} {enc : TypeId × Value → H}
theorem open_act {W : World} {r : Reach} {b0 base : Nat} {sp : Nat → Bool} {held : Bool} {v : Value} {d : DataW H} {p : List MemPlace}
    (hv : Value.okWide Tryd.prog W r b0 66 v) (h : DataW.Trod enc Tryd.prog W base sp held 66 v d p) : ∃ a : Ac, v = a.val ∧ a.ok := by
  simp only [Value.okWide, Tryd.underlying66] at hv
  obtain ⟨cs, rfl, h2, _⟩ := hv
  obtain ⟨l⟩ := cs
  rw [cellI.2.2.2] at h2
  match l, h2 with
  | [q0, q1, q2, q3, q4], _ =>
    obtain ⟨fuel, hf⟩ := h
    obtain ⟨x, hx, ok⟩ := act_el W fuel [q0, q1, q2, q3, q4] _ rfl (by simpa [Value.cells] using hf)
    refine ⟨x, ?_, ok⟩
    rw [hx]
    rfl
theorem acts_size {W : World} {base : Nat} {sp : Nat → Bool} {held : Bool} {A : Option Addr} {n c : Nat} {d : DataW H} {p : List MemPlace} (h : DataW.Trod enc Tryd.prog W base sp held 52 (.slice A n c) d p)
    {ts : List TypeId} {ds : List (DataW H)} (hsz : (DataW.weightsEach Tryd.prog ts ds).all (· ≤ reachBytes) = true) {j : Nat} (ht : ts[j]? = some 52) (hd : ds[j]? = some d) : n * 16 ≤ 140737488351232 := by
  obtain ⟨fuel, hf⟩ := h
  rcases Deep.open_slice Tryd.underlying52 hf with ⟨hcs, hx⟩ | ⟨a, len', cap', m, k, D, Pl, hcs, _, hl, hm, hmm, hx, hi⟩
  · simp [Value.cells] at hcs
    omega
  · simp [Value.cells] at hcs
    obtain ⟨_, e2, _⟩ := hcs
    have hdd := (Prod.mk.inj hx).1
    rw [hdd] at hd
    have hs := sized_slice hsz ht hd Tryd.underlying52
    rw [show Tryd.prog.bytesOf 66 = 16 by kernel_rfl, List.length_map, List.length_range] at hs
    have hre : reachBytes = 140737488351232 := by decide
    have : len' * 16 ≤ (len' + ((List.range (m - len')).map fun j => D (len' + j)).length) * 16 := Nat.mul_le_mul_right _ (Nat.le_add_right _ _)
    omega
end
end Go.Proofs.YtanglofabkbllaaDoor
