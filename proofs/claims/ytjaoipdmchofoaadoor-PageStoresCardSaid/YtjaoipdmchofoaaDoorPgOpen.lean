/- A page that came in, by value or inside of other data. Conditions: none. -/
import Derived.Test.YtjaoipdmchofoaaDoorHelp
import Derived.Test.YtjaoipdmchofoaaDoorEnd
import Derived.Lib.SmallJoins
set_option linter.unusedSimpArgs false
set_option linter.unusedVariables false
namespace Go.Proofs.YtjaoipdmchofoaaDoor
open Go.ChangeShapes Go.WideShapes Go.ChangeAt Go.RowKit Go.Joins
set_option maxRecDepth 100000

theorem cell1 : Tryd.prog.cellsOf 3 = 1 ∧ Tryd.prog.cellsOf 22 = 1 ∧ Tryd.prog.cellsOf 23 = 1 ∧ Tryd.prog.cellsOf 5 = 1 ∧ Tryd.prog.cellsOf 25 = 4 := ⟨by kernel_rfl, by kernel_rfl, by kernel_rfl, by kernel_rfl, by kernel_rfl⟩
section
variable {H : Type} {enc : TypeId × Value → H}
theorem int_lim {x : Int} (h : (Lit.int .i64 x).wf = true) : -9223372036854775808 ≤ x ∧ x ≤ 9223372036854775807 := by
  simpa [Lit.wf, IntKind.min, IntKind.max, IntKind.signed, IntKind.bits] using h
theorem u64_lim {x : Int} (h : (Lit.int .u64 x).wf = true) : ∃ n : Nat, x = n ∧ n < 18446744073709551616 := by
  have : 0 ≤ x ∧ x ≤ 18446744073709551615 := by simpa [Lit.wf, IntKind.min, IntKind.max, IntKind.signed, IntKind.bits] using h
  exact ⟨x.toNat, by omega, by omega⟩
theorem page_el (W : World) {base : Nat} {sp : Nat → Bool} {held : Bool} (n : Nat) (cs : List Value) (y : DataW H × List MemPlace) (hl : cs.length = 4)
    (h : DataW.trod enc Tryd.prog W base sp held n 25 cs = some y) : ∃ p : Pg, cs = p.cs ∧ p.ok W := by
  obtain ⟨q1, q2, q3, q4, q5⟩ := cell1
  obtain ⟨y0, y1, y2, y3, m, _, _, h0, h1, h2, h3⟩ := trod_struct4 Tryd.underlying25 h
  match cs, hl with
  | [c0, c1, c2, c3], _ =>
    simp only [q1, q2, q3, List.drop_zero, List.drop_succ_cons, List.take_succ_cons, List.take_zero] at h0 h1 h2 h3
    obtain ⟨x0, e0, _, w0⟩ := DataW.trod_int Tryd.underlying3 h0
    obtain ⟨x1, e1, _, w1⟩ := DataW.trod_int Tryd.underlying22 h1
    obtain ⟨x2, e2, _, w2⟩ := DataW.trod_int Tryd.underlying3 h2
    obtain ⟨A, n, c, l, e3, hr, hc, hm⟩ := bytes_cell Tryd.underlying23 Tryd.underlying5 q4 h3
    obtain ⟨s, rfl, hs⟩ := u64_lim w1
    have a := int_lim w0
    have b := int_lim w2
    simp only [List.cons.injEq, and_true] at e0 e1 e2 e3
    subst e0 e1 e2 e3
    exact ⟨⟨x0, s, x2, A, n, c, l⟩, rfl, hr, hc, hm, hs, a.1, a.2, b.1, b.2⟩
theorem open_page {W : World} {r : Reach} {b0 base : Nat} {sp : Nat → Bool} {held : Bool} {v : Value} {d : DataW H} {p : List MemPlace}
    (hv : Value.okWide Tryd.prog W r b0 25 v) (h : DataW.Trod enc Tryd.prog W base sp held 25 v d p) : ∃ p : Pg, v = p.v ∧ p.ok W := by
  obtain ⟨cs, rfl, hsz⟩ := okWide_struct Tryd.underlying25 hv
  obtain ⟨fuel, hf⟩ := h
  obtain ⟨p, hp, hok⟩ := page_el W fuel _ _ (by simp [Value.cells, hsz, cell1.2.2.2.2]) hf
  refine ⟨p, ?_, hok⟩
  simp only [Value.cells] at hp
  cases cs with
  | mk l => simp only at hp; subst hp; rfl
end
end Go.Proofs.YtjaoipdmchofoaaDoor
