/- The acts that came in. Conditions: none. -/
import Derived.Test.YtjaoipdmchofoaaDoorFgOpen
set_option linter.unusedSimpArgs false
set_option linter.unusedVariables false
namespace Go.Proofs.YtjaoipdmchofoaaDoor
open Go.ChangeShapes Go.WideShapes Go.ChangeAt Go.RowKit Go.Joins
set_option maxRecDepth 100000

structure Ac where
  (act : Nat) (sec : Int) (pg : Pg) (ch : Nat)
def Ac.cs (x : Ac) : List Value := [.int .u8 x.act, .int .i64 x.sec, .int .i64 x.pg.id, .int .u64 x.pg.stamp, .int .i64 x.pg.kind, .slice x.pg.A x.pg.n x.pg.c, .int .u64 x.ch]
structure Ac.ok (W : World) (x : Ac) : Prop where
  act : x.act ≤ 255
  s0 : -9223372036854775808 ≤ x.sec
  s1 : x.sec ≤ 9223372036854775807
  pg : x.pg.ok W
  ch : x.ch < 18446744073709551616
theorem a8_lim {x : Int} (h : (Lit.int .u8 x).wf = true) : ∃ n : Nat, x = n ∧ n ≤ 255 := by
  have : 0 ≤ x ∧ x ≤ 255 := by simpa [Lit.wf, IntKind.min, IntKind.max, IntKind.signed, IntKind.bits] using h
  exact ⟨x.toNat, by omega, by omega⟩
theorem cellA : Tryd.prog.cellsOf 64 = 7 := by kernel_rfl
section
variable {H : Type} {enc : TypeId × Value → H}
theorem act_el (W : World) {base : Nat} {sp : Nat → Bool} {held : Bool} (n : Nat) (cs : List Value) (y : DataW H × List MemPlace) (hl : cs.length = 7)
    (h : DataW.trod enc Tryd.prog W base sp held n 64 cs = some y) : ∃ x : Ac, cs = x.cs ∧ x.ok W := by
  obtain ⟨q1, q2, q3, q4, q5⟩ := cell1
  obtain ⟨y0, y1, y2, y3, m, _, _, h0, h1, h2, h3⟩ := trod_struct4 Tryd.underlying64 h
  match cs, hl with
  | [c0, c1, c2, c3, c4, c5, c6], _ =>
    simp only [q1, q2, q3, q4, q5, List.drop_zero, List.drop_succ_cons, List.take_succ_cons, List.take_zero] at h0 h1 h2 h3
    obtain ⟨x0, e0, _, w0⟩ := DataW.trod_int Tryd.underlying5 h0
    obtain ⟨x1, e1, _, w1⟩ := DataW.trod_int Tryd.underlying3 h1
    obtain ⟨pg, ep, hp⟩ := page_el W m _ _ rfl h2
    obtain ⟨x3, e3, _, w3⟩ := DataW.trod_int Tryd.underlying22 h3
    obtain ⟨a, rfl, ha⟩ := a8_lim w0
    obtain ⟨c, rfl, hc⟩ := u64_lim w3
    have b := int_lim w1
    simp only [Pg.cs, List.cons.injEq, and_true] at e0 e1 e3 ep
    obtain ⟨rfl, rfl, rfl, rfl⟩ := ep
    subst e0 e1 e3
    exact ⟨⟨a, x1, pg, c⟩, rfl, ha, b.1, b.2, hp, hc⟩
theorem open_acts {W : World} {r : Reach} {b0 base : Nat} {sp : Nat → Bool} {held : Bool} {v : Value} {d : DataW H} {p : List MemPlace}
    (hv : Value.okWide Tryd.prog W r b0 62 v) (h : DataW.Trod enc Tryd.prog W base sp held 62 v d p) :
    ∃ (A : Option Addr) (n c : Nat) (X : List Ac), v = .slice A n c ∧ X.length = n ∧ RL W 7 A n (X.flatMap Ac.cs) ∧ (∀ x ∈ X, x.ok W) ∧ n ≤ c ∧ c ≤ 9223372036854775807 :=
  open_list 7 (by omega) Ac.cs (fun _ => rfl) (Ac.ok W) Tryd.underlying62 cellA (act_el W) hv h
end
end Go.Proofs.YtjaoipdmchofoaaDoor
