/- A forged page that came in. Conditions: none. -/
import Derived.Test.YtjaoipdmchofoaaDoorPgOpen
import Derived.Test.YtjaoipdmchofoaaDoorForged
import Derived.Laws.IdiomArrays
set_option linter.unusedSimpArgs false
set_option linter.unusedVariables false
namespace Go.Proofs.YtjaoipdmchofoaaDoor
open Go.ChangeShapes Go.WideShapes Go.ChangeAt Go.RowKit Go.Joins
set_option maxRecDepth 100000

theorem cell2 : Tryd.prog.cellsOf 36 = 1 ∧ Tryd.prog.cellsOf 4 = 1 ∧ Tryd.prog.cellsOf 35 = 1 ∧ Tryd.prog.cellsOf 75 = 2 ∧ Tryd.prog.cellsOf 38 = 7 := ⟨by kernel_rfl, by kernel_rfl, by kernel_rfl, by kernel_rfl, by kernel_rfl⟩
section
variable {H : Type} {enc : TypeId × Value → H}
theorem u16_lim {x : Int} (h : (Lit.int .u16 x).wf = true) : ∃ n : Nat, x = n ∧ n < 65536 := by
  have : 0 ≤ x ∧ x ≤ 65535 := by simpa [Lit.wf, IntKind.min, IntKind.max, IntKind.signed, IntKind.bits] using h
  exact ⟨x.toNat, by omega, by omega⟩
theorem chg_el (W : World) {base : Nat} {sp : Nat → Bool} {held : Bool} (n : Nat) (cs : List Value) (y : DataW H × List MemPlace) (hl : cs.length = 2)
    (h : DataW.trod enc Tryd.prog W base sp held n 75 cs = some y) : ∃ p : Chg, cs = p.cs ∧ p.ok := by
  obtain ⟨q1, q2, q3, q4, q5⟩ := cell1
  obtain ⟨r1, r2, r3, r4, r5⟩ := cell2
  obtain ⟨y0, y1, m, _, _, h0, h1⟩ := trod_struct2 Tryd.underlying75 h
  match cs, hl with
  | [c0, c1], _ =>
    simp only [q4, r1, List.drop_zero, List.drop_succ_cons, List.take_succ_cons, List.take_zero] at h0 h1
    obtain ⟨x0, e0, _, w0⟩ := DataW.trod_int Tryd.underlying36 h0
    obtain ⟨x1, e1, _, w1⟩ := DataW.trod_int Tryd.underlying5 h1
    obtain ⟨a, rfl, ha⟩ := u16_lim w0
    simp only [List.cons.injEq, and_true] at e0 e1
    subst e0 e1
    refine ⟨⟨a, UInt8.ofNat x1.toNat⟩, ?_, ha⟩
    unfold Chg.cs byV
    rw [← as8 w1]
theorem open_u8x4 {W : World} {r : Reach} {b0 base : Nat} {sp : Nat → Bool} {held : Bool} {v : Value} {d : DataW H} {p : List MemPlace}
    (hv : Value.okWide Tryd.prog W r b0 47 v) (h : DataW.Trod enc Tryd.prog W base sp held 47 v d p) :
    ∃ a b c d : UInt8, v = .agg #[byV a, byV b, byV c, byV d] := by
  simp only [Value.okWide, Tryd.underlying47] at hv
  obtain ⟨cs, rfl, h2, _⟩ := hv
  obtain ⟨l⟩ := cs
  have c4 : Tryd.prog.cellsOf 47 = 4 := by kernel_rfl
  rw [c4] at h2
  match l, h2 with
  | [c0, c1, c2, c3], _ =>
    obtain ⟨fuel, hf⟩ := h
    obtain ⟨y0, y1, y2, y3, n, _, h0, h1, h2, h3⟩ := trod_array4 Tryd.underlying47 cell1.2.2.2.1 (by simpa [Value.cells] using hf)
    obtain ⟨x0, e0, _, w0⟩ := DataW.trod_int Tryd.underlying5 h0
    obtain ⟨x1, e1, _, w1⟩ := DataW.trod_int Tryd.underlying5 h1
    obtain ⟨x2, e2, _, w2⟩ := DataW.trod_int Tryd.underlying5 h2
    obtain ⟨x3, e3, _, w3⟩ := DataW.trod_int Tryd.underlying5 h3
    simp at e0 e1 e2 e3
    subst e0 e1 e2 e3
    exact ⟨UInt8.ofNat x0.toNat, UInt8.ofNat x1.toNat, UInt8.ofNat x2.toNat, UInt8.ofNat x3.toNat, by unfold byV; rw [← as8 w0, ← as8 w1, ← as8 w2, ← as8 w3]⟩
theorem open_forge {W : World} {r : Reach} {b0 base : Nat} {sp : Nat → Bool} {held : Bool} {v : Value} {d : DataW H} {p : List MemPlace}
    (hv : Value.okWide Tryd.prog W r b0 38 v) (h : DataW.Trod enc Tryd.prog W base sp held 38 v d p) : ∃ x : Fg, v = x.v ∧ x.ok W := by
  obtain ⟨q1, q2, q3, q4, q5⟩ := cell1
  obtain ⟨r1, r2, r3, r4, r5⟩ := cell2
  obtain ⟨cs, rfl, hsz⟩ := okWide_struct Tryd.underlying38 hv
  obtain ⟨fuel, hf⟩ := h
  obtain ⟨y0, y1, y2, y3, m, _, _, h0, h1, h2, h3⟩ := trod_struct4 Tryd.underlying38 hf
  obtain ⟨cs⟩ := cs
  rw [r5] at hsz
  match cs, hsz with
  | [c0, c1, c2, c3, c4, c5, c6], _ =>
    simp only [Value.cells, q5, r1, r2, r3, List.drop_zero, List.drop_succ_cons, List.take_succ_cons, List.take_zero] at h0 h1 h2 h3
    obtain ⟨pg, ep, hp⟩ := page_el W m _ _ rfl h0
    obtain ⟨A, n, c, X, e1, hX, hr, hok, hc, hm⟩ := list_cell 2 (by omega) Chg.cs (fun _ => rfl) Chg.ok Tryd.underlying35 r4 (chg_el W) h1
    obtain ⟨sl, e2, _⟩ := DataW.trod_bool Tryd.underlying4 h2
    obtain ⟨x3, e3, _, w3⟩ := DataW.trod_int Tryd.underlying36 h3
    obtain ⟨cut, rfl, hcut⟩ := u16_lim w3
    simp only [List.cons.injEq, and_true] at e1 e2 e3
    subst e1 e2 e3
    refine ⟨⟨pg, A, n, c, X, sl, cut⟩, ?_, hp, hr, hok, hc, hm, hcut⟩
    unfold Fg.v Fg.cs
    rw [← ep]
    rfl
end
end Go.Proofs.YtjaoipdmchofoaaDoor
