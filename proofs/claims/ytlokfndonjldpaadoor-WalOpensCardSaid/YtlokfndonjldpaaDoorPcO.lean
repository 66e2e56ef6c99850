/- The arguments of WalOpens read as pieces and as two bytes. -/
import Derived.Test.YtlokfndonjldpaaDoorAct
import Derived.Test.YtlokfndonjldpaaDoorOpens
set_option linter.unusedSimpArgs false
set_option linter.unusedVariables false
set_option maxRecDepth 100000
namespace Go.Proofs.YtlokfndonjldpaaDoor
open Go.ChangeShapes Go.WideShapes Go.ChangeAt Go.RowKit
section
variable {H : Type} {enc : TypeId × Value → H}
theorem cellP : Tryd.prog.cellsOf 5 = 1 ∧ Tryd.prog.cellsOf 29 = 1 ∧ Tryd.prog.cellsOf 31 = 5 ∧ Tryd.prog.cellsOf 23 = 2 := by
  refine ⟨?_, ?_, ?_, ?_⟩ <;> kernel_rfl
theorem pc_el (W : World) {base : Nat} {sp : Nat → Bool} {held : Bool} (n : Nat) (cs : List Value) (y : DataW H × List MemPlace) (hl : cs.length = 5)
    (h : DataW.trod enc Tryd.prog W base sp held n 31 cs = some y) : ∃ x : Pc, cs = x.cs ∧ x.ok := by
  obtain ⟨q1, q2, q3, _⟩ := cellP
  obtain ⟨xs, m, _, _, _, hlen, hf⟩ := DataW.trod_struct Tryd.underlying31 h
  match cs, hl with
  | [c0, c1, c2, c3, c4], _ =>
    match xs, hlen with
    | [y0, y1, y2, y3, y4], _ =>
      have h0 : DataW.trod enc Tryd.prog W base sp held m 5 [c0] = some y0 := by have := hf 0 _ rfl; simpa [q1] using this
      have h1 : DataW.trod enc Tryd.prog W base sp held m 5 [c1] = some y1 := by have := hf 1 _ rfl; simpa [q1, q2] using this
      have h2 : DataW.trod enc Tryd.prog W base sp held m 5 [c2] = some y2 := by have := hf 2 _ rfl; simpa [q1, q2] using this
      have h3 : DataW.trod enc Tryd.prog W base sp held m 29 [c3] = some y3 := by have := hf 3 _ rfl; simpa [q1, q2, q3] using this
      have h4 : DataW.trod enc Tryd.prog W base sp held m 29 [c4] = some y4 := by have := hf 4 _ rfl; simpa [q1, q2, q3] using this
      obtain ⟨x0, e0, _, w0⟩ := DataW.trod_int Tryd.underlying5 h0
      obtain ⟨x1, e1, _, w1⟩ := DataW.trod_int Tryd.underlying5 h1
      obtain ⟨x2, e2, _, w2⟩ := DataW.trod_int Tryd.underlying5 h2
      obtain ⟨x3, e3, _, w3⟩ := DataW.trod_int Tryd.underlying29 h3
      obtain ⟨x4, e4, _, w4⟩ := DataW.trod_int Tryd.underlying29 h4
      obtain ⟨a, rfl, ha⟩ := u8_lim w0
      obtain ⟨b, rfl, hb⟩ := u8_lim w1
      obtain ⟨c, rfl, hc⟩ := u8_lim w2
      obtain ⟨d, rfl, hd⟩ := u16_lim w3
      obtain ⟨f, rfl, hf5⟩ := u16_lim w4
      simp only [List.cons.injEq, and_true] at e0 e1 e2 e3 e4
      subst e0 e1 e2 e3 e4
      exact ⟨⟨a, b, c, d, f⟩, rfl, by show a < 256; omega, by show b < 256; omega, by show c < 256; omega, hd, hf5⟩
theorem open_pieces {W : World} {r : Reach} {b0 base : Nat} {sp : Nat → Bool} {held : Bool} {v : Value} {d : DataW H} {p : List MemPlace}
    (hv : Value.okWide Tryd.prog W r b0 22 v) (h : DataW.Trod enc Tryd.prog W base sp held 22 v d p) :
    ∃ (A : Option Addr) (n c : Nat) (X : List Pc), v = .slice A n c ∧ X.length = n ∧ RL W 5 A n (X.flatMap Pc.cs) ∧ (∀ x ∈ X, x.ok) ∧ n ≤ c ∧ c ≤ 9223372036854775807 :=
  open_list 5 (by omega) Pc.cs (fun _ => rfl) Pc.ok Tryd.underlying22 cellP.2.2.1 (pc_el W) hv h
theorem open_h2 {W : World} {r : Reach} {b0 base : Nat} {sp : Nat → Bool} {held : Bool} {v : Value} {d : DataW H} {p : List MemPlace}
    (hv : Value.okWide Tryd.prog W r b0 23 v) (h : DataW.Trod enc Tryd.prog W base sp held 23 v d p) :
    ∃ y z : Nat, v = .agg #[.int .u8 y, .int .u8 z] ∧ y < 256 ∧ z < 256 := by
  simp only [Value.okWide, Tryd.underlying23] at hv
  obtain ⟨cs, rfl, h2, _⟩ := hv
  obtain ⟨l⟩ := cs
  obtain ⟨c1, _, _, c2⟩ := cellP
  rw [c2] at h2
  match l, h2 with
  | [q0, q1], _ =>
    obtain ⟨fuel, hf⟩ := h
    obtain ⟨xs, m, _, _, _, hlen, hel⟩ := DataW.trod_array Tryd.underlying23 (by simpa [Value.cells] using hf)
    rw [c1] at hel
    have e0 := hel 0 (by omega)
    have e1 := hel 1 (by omega)
    match xs, hlen with
    | [y0, y1], _ =>
      obtain ⟨x0, f0, _, w0⟩ := DataW.trod_int Tryd.underlying5 (show DataW.trod enc Tryd.prog W base sp held m 5 [q0] = some y0 by simpa using e0)
      obtain ⟨x1, f1, _, w1⟩ := DataW.trod_int Tryd.underlying5 (show DataW.trod enc Tryd.prog W base sp held m 5 [q1] = some y1 by simpa using e1)
      obtain ⟨a, rfl, ha⟩ := u8_lim w0
      obtain ⟨b, rfl, hb⟩ := u8_lim w1
      simp only [List.cons.injEq, and_true] at f0 f1
      subst f0 f1
      exact ⟨a, b, rfl, by omega, by omega⟩
end
end Go.Proofs.YtlokfndonjldpaaDoor
