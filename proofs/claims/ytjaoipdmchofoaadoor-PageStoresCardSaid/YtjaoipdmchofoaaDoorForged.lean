/- The law's forged encodings, walked. Conditions: the argument reads. -/
import Derived.Test.YtjaoipdmchofoaaDoorBytes
set_option linter.unusedSimpArgs false
set_option linter.unusedVariables false
namespace Go.Proofs.YtjaoipdmchofoaaDoor
open Go.RowKit

theorem and_31 (x : Int) : ∃ n : Nat, bits .and .i64 x 2147483647 = n ∧ n ≤ 2147483647 := by
  have h : (BitVec.ofInt 64 x &&& BitVec.ofInt 64 2147483647).toNat ≤ 2147483647 := by
    rw [BitVec.toNat_and]
    exact Nat.and_le_right
  refine ⟨_, ?_, h⟩
  show IntKind.i64.wrap ((BitVec.ofInt 64 x &&& BitVec.ofInt 64 2147483647).toNat : Int) = _
  rw [IntWalk.i64_in _ (by omega)]
theorem and_8 (x : Int) : ∃ n : Nat, bits .and .i64 x 255 = n ∧ n ≤ 255 := by
  have h : (BitVec.ofInt 64 x &&& BitVec.ofInt 64 255).toNat ≤ 255 := by
    rw [BitVec.toNat_and]
    exact Nat.and_le_right
  refine ⟨_, ?_, h⟩
  show IntKind.i64.wrap ((BitVec.ofInt 64 x &&& BitVec.ofInt 64 255).toNat : Int) = _
  rw [IntWalk.i64_in _ (by omega)]

/-- a change, and a forged page, as values -/
structure Chg where
  (at_ : Nat) (to_ : UInt8)
def Chg.cs (x : Chg) : List Value := [.int .u16 x.at_, byV x.to_]
def Chg.ok (x : Chg) : Prop := x.at_ < 65536
structure Fg where
  (p : Pg) (A : Option Addr) (n c : Nat) (X : List Chg) (seal_ : Bool) (cut : Nat)
def Fg.cs (x : Fg) : List Value := x.p.cs ++ [.slice x.A x.n x.c, .bool x.seal_, .int .u16 x.cut]
def Fg.v (x : Fg) : Value := .agg x.cs.toArray
structure Fg.ok (W : World) (x : Fg) : Prop where
  p : x.p.ok W
  r : RL W 2 x.A x.n (x.X.flatMap Chg.cs)
  ys : ∀ y ∈ x.X, y.ok
  nc : x.n ≤ x.c
  cm : x.c ≤ 9223372036854775807
  cut : x.cut < 65536

set_option maxRecDepth 100000 in
set_option maxHeartbeats 2000000 in
theorem forged_any (x : Fg) (w : World) (hx : x.ok w) (h20 : x.n ≤ 20) :
    Calls Tryd.prog 15 #[x.v] w fun e w' => ∃ A n c l, e = .returned (.slice A n c) ∧ RB w' A n l ∧ n ≤ c ∧ c ≤ 9223372036854775807 ∧ Below w.heap.size w w' := by
  obtain ⟨⟨id, stamp, kind, A, n, c, l⟩, B, m, d, X, sl, cut⟩ := x
  obtain ⟨⟨rb, nc, cm, hs, i0, i1, k0, k1⟩, hr, hX, md, dm, hcut⟩ := hx
  simp only [Fg.v, Fg.cs, Pg.cs, List.cons_append, List.nil_append] at *
  obtain ⟨i, hi, hi2⟩ := and_31 id
  obtain ⟨k, hk, hk2⟩ := and_8 kind
  go_enter Tryd.func15, Tryd.ntmps15
  go_wp2_with fail
  all_goals
    generalize hw : World.alloc (World.alloc w _) _ = w1
    have hX1 : Blk w1 w.heap.size 38 [.int .i64 id, .int .u64 stamp, .int .i64 kind, .slice A n c, .slice B m d, .bool sl, .int .u16 cut] := by
      rw [← hw]
      exact (Blk.new w 38 [.int .i64 id, .int .u64 stamp, .int .i64 kind, .slice A n c, .slice B m d, .bool sl, .int .u16 cut]).keep ((Below.refl _ _).alloc (Nat.le_refl _) _)
    have hB1 : Below w.heap.size w w1 := by
      rw [← hw]
      exact ((Below.refl _ _).alloc (Nat.le_refl _) _).alloc (by simp) _
    clear hw
    refine (encode_ref i k stamp A _ c _ _ (by first | exact rb.below hB1 | exact (rb.pre (k := 1000) (by omega)).below hB1) hi2 hk2 (by omega) hs).mono ?_
    rintro e w2 ⟨v, rfl, hown2, b2⟩
    obtain ⟨A2, c2, rfl, _, hc2, hm2⟩ := own_form hown2
    obtain ⟨g, rfl, hg, _⟩ := own_set hown2 (k := 0) (by omega)
    have hLL : ∃ L : List UInt8, L.length = 1024 ∧ w2.ownsRow w1.heap.size 5 1 (.slice (some ⟨g, 0, none⟩) 1024 c2) 1024 (L.map byV) := ⟨_, by have := hown2.1; simpa using this, hown2⟩
    clear hown2
    have b1 : Below w1.heap.size w1 w2 := b2
    have hX2 := hX1.keep b2
    obtain ⟨a0, a1, a2, a3, a4, a5, a6⟩ := hX2.c7
    go_wp2_with fail
    go_loopw [30] (fun i wr => ∃ q : Nat, q ≤ m ∧ i = .int .i64 q ∧ (∃ L : List UInt8, L.length = 1024 ∧ wr.ownsRow w1.heap.size 5 1 (.slice (some ⟨g, 0, none⟩) 1024 c2) 1024 (L.map byV)) ∧ Below w1.heap.size w1 wr) (fun i _ => m - (intOf i).toNat)
    case atStart => exact ⟨0, Nat.zero_le _, rfl, hLL, b1⟩
    case round =>
      obtain ⟨q, hq, rfl, ⟨L, hL, hown⟩, bel⟩ := hrel
      clear hLL b1 b2 a0 a1 a2 a3 a4 a5 a6 hX2
      have hr2 := (hr.below hB1).below bel
      have hXr := hX1.keep bel
      have HL := hid hL
      clear hL
      by_cases hlt : q < m
      · obtain ⟨bb, oo, ch, rfl, hbb, hch, hcell⟩ := hr2.el (f := Chg.cs) (fun _ => rfl) hlt (by omega)
        have e0 := hcell 0 _ rfl
        have e1 := hcell 1 _ rfl
        have HX := hid hX
        have hok : ch.at_ < 65536 := hX ch (List.mem_of_getElem? hch)
        clear hcell hch hX
        rw [Nat.add_zero] at e0
        obtain ⟨g', eg, _, hgl, hcel, hfr, hset⟩ := own_set (hown.alloc (.cells ch.cs.toArray 75)) (k := ch.at_ % 1024) (by omega)
        cases eg
        have HS := hid (hset (byV ch.to_))
        clear hset
        have hcl : ((L.map byV)[ch.at_ % 1024]?).isSome = true := by rw [List.getElem?_map]; simp [HL.out]; omega
        obtain ⟨old, hold⟩ := Option.isSome_iff_exists.1 hcl
        rw [hold] at hcel
        clear hcl hold
        simp only [Chg.cs, byV] at *
        go_wp2_with fail
        go_roundw
        case rel =>
          refine ⟨q + 1, by omega, by go_num, ⟨L.set (ch.at_ % 1024) ch.to_, by rw [List.length_set]; exact HL.out, ?_⟩, ?_⟩
          · rw [List.map_set]
            exact HS.out.1
          · exact (bel.alloc bel.size _).grown HS.out.2 (by have := bel.size; simp; omega) (fun k hk => by cases hk; exact hg)
        case measure => simp [intOf]; omega
      · obtain rfl : q = m := by omega
        obtain ⟨a0, a1, a2, a3, a4, a5, a6⟩ := hXr.c7
        have hrb : RB wr (some ⟨g, 0, none⟩) 1024 L := RL.of_own hown
        have hB3 := hB1.trans (bel.mono hB1.size)
        clear hX hr hr2 hown hX1 hg
        cases sl with
        | false =>
          go_wp2_with fail
          go_ret
          exact ⟨_, _, _, _, rfl, hrb.pre (by omega), by omega, hm2, hB3⟩
        | true =>
          go_wp2_with fail
          refine (seal_any _ 1024 c2 L _ hrb (by omega) hc2 hm2).mono ?_
          rintro e w4 ⟨v, rfl, hown4, b4⟩
          obtain ⟨A4, c4, rfl, hr4, hc4, hm4⟩ := own_form hown4
          obtain ⟨a0, a1, a2, a3, a4, a5, a6⟩ := (hXr.keep b4).c7
          have hrb4 : RB w4 A4 1024 _ := hr4
          go_wp2_with fail
          go_ret
          exact ⟨_, _, _, _, rfl, hrb4.pre (by omega), by omega, hm4, hB3.trans (b4.mono hB3.size)⟩
end Go.Proofs.YtjaoipdmchofoaaDoor
