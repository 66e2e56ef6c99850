/- put, get, region of package pager, walked. Conditions: those of each theorem. Root of package pager, walked; []byte(s). Conditions: the pager fits. -/
import Derived.Test.YtanglofabkbllaaDoorPgr
import Derived.Test.YtanglofabkbllaaDoorPageP
import Derived.Test.YtanglofabkbllaaDoorNum
import Derived.Deep.QuietTactic
import Derived.BigQuiet
import Derived.Test.YtanglofabkbllaaDoorHead
import Derived.Laws.IdiomStrings
set_option linter.unusedSimpArgs false
set_option linter.unusedVariables false
namespace Go.Proofs.YtanglofabkbllaaDoor
open Go.RowKit

set_option maxRecDepth 100000 in
theorem put_any (g off n c v : Nat) (T : TypeId) (cs : List Value) (w : World) (hk : Blk w g T cs) (hn : 2 ≤ n) (ho : off + n ≤ cs.length) (hv : v < 65536) (h1 : ∀ u ∈ cs, ∃ x, u = byV x) :
    Calls Tryd.prog 64 #[.slice (some ⟨g, off, none⟩) n c, .int .i64 v] w fun e w' => e = .returned (.tuple #[]) ∧ Blk w' g T ((cs.set off (byV (UInt8.ofNat v))).set (off + 1) (byV (UInt8.ofNat (v / 256)))) ∧ w.grownBy w' (some g) := by
  obtain ⟨x0, e0⟩ := h1 (cs[off]'(by omega)) (List.getElem_mem ..)
  obtain ⟨x1, e1⟩ := h1 (cs[off + 1]'(by omega)) (List.getElem_mem ..)
  have c0 : w.cell? ⟨g, off, none⟩ = some (byV x0) := (hk.cell _).trans (by rw [List.getElem?_eq_getElem (by omega), e0])
  have c1 : w.cell? ⟨g, off + 1, none⟩ = some (byV x1) := (hk.cell _).trans (by rw [List.getElem?_eq_getElem (by omega), e1])
  have f0 := hk.frozen off
  have f1 := hk.frozen (off + 1)
  have v0 : IntKind.u8.wrap (v : Int) = N8 (UInt8.ofNat v) := by
    unfold N8
    rw [show IntKind.u8.wrap (v : Int) = (v : Int) % 256 from rfl]
    simp
  have v1 : IntKind.u8.wrap ((v : Int) / 256) = N8 (UInt8.ofNat (v / 256)) := by
    unfold N8
    rw [show IntKind.u8.wrap ((v : Int) / 256) = (v : Int) / 256 % 256 from rfl]
    simp
  have t1 : (0 : Int) < (n : Int) := by omega
  have t2 : (1 : Int) < (n : Int) := by omega
  have lg := hk.lt
  clear h1 e0 e1
  go_enter Tryd.func64, Tryd.ntmps64
  go_wp2_with fail
  (first | refine bodyPost_ret (results_none rfl _ _ _) rfl ?_ | refine bodyPost_end (results_none rfl _ _ _) rfl ?_)
  have hs := (hk.set_ off (byV (UInt8.ofNat v))).set_ (off + 1) (byV (UInt8.ofNat (v / 256)))
  have ha := hk.setg off (byV (UInt8.ofNat v))
  have hb := (hk.set_ off (byV (UInt8.ofNat v))).setg (off + 1) (byV (UInt8.ofNat (v / 256)))
  exact ⟨rfl, hs, ⟨hb.os.trans ha.os, hb.tape.trans ha.tape, hb.output.trans ha.output, Nat.le_trans ha.size hb.size, fun k h1 h2 => (hb.block k (Nat.lt_of_lt_of_le h1 ha.size) h2).trans (ha.block k h1 h2)⟩⟩
theorem i64_or_nat (a b : Nat) (ha : a < 9223372036854775808) (hb : b < 9223372036854775808) : bits .or .i64 (a : Int) (b : Int) = ((a ||| b : Nat) : Int) := by
  have hx : a ||| b < 2 ^ 63 := Nat.or_lt_two_pow (by omega) (by omega)
  show IntKind.i64.wrap ((BitVec.ofInt 64 (a : Int) ||| BitVec.ofInt 64 (b : Int)).toNat : Int) = _
  rw [BitVec.toNat_or, ofInt_u64 a (by omega), ofInt_u64 b (by omega)]
  exact IntWalk.i64_in _ (by omega)
set_option maxRecDepth 100000 in
theorem get_any (A : Option Addr) (n c : Nat) (l : List UInt8) (w : World) (hb : RB w A n l) (hn : 2 ≤ n) :
    Calls Tryd.prog 65 #[.slice A n c] w fun e w' => e = .returned (.int .i64 (num (l.take 2))) ∧ Below w.heap.size w w' := by
  have hl := hb.len
  obtain ⟨b0, o0, x0, e0, hb0, hx0, hc0⟩ := hb.at (k := 0) (by omega)
  obtain ⟨b1, o1, x1, e1, hb1, hx1, hc1⟩ := hb.at (k := 1) (by omega)
  rw [e0] at e1
  simp only [Option.some.injEq, Addr.mk.injEq, and_true] at e1
  obtain ⟨rfl, rfl⟩ := e1
  subst e0
  have hv : num (l.take 2) = x0.toNat + 256 * x1.toNat := by
    match l, hx0, hx1 with
    | a :: b :: r, hx0, hx1 =>
      simp only [List.getElem?_cons_zero, List.getElem?_cons_succ, Option.some.injEq] at hx0 hx1
      subst hx0 hx1
      simp [num]
  have h0 := x0.toNat_lt
  have h1 := x1.toNat_lt
  have eo : bits .or .i64 (N8 x0) (N8 x1 * 256) = ((num (l.take 2) : Nat) : Int) := by
    have e := or_shift x0.toNat x1.toNat 1 (by omega)
    have e2 := i64_or_nat x0.toNat (x1.toNat * 256) (by omega) (by omega)
    rw [show x1.toNat * 256 = x1.toNat * 2 ^ (8 * 1) by rfl, e] at e2
    rw [hv]
    unfold N8
    rw [show (x1.toNat : Int) * 256 = ((x1.toNat * 2 ^ (8 * 1) : Nat) : Int) by rw [Int.natCast_mul]; rfl, e2]
  rw [Nat.add_zero] at hc0
  have g0 := fun x : Ext w => (x.h.cell hb0).trans hc0
  have g1 := fun x : Ext w => (x.h.cell hb1).trans hc1
  have t1 : (0 : Int) < (n : Int) := by omega
  have t2 : (1 : Int) < (n : Int) := by omega
  have w0 : IntKind.i64.wrap (N8 x0) = N8 x0 := IntWalk.i64_in _ (by unfold N8; omega)
  have w1 : IntKind.i64.wrap (N8 x1) = N8 x1 := IntWalk.i64_in _ (by unfold N8; omega)
  have w2 : IntKind.i64.wrap (N8 x1 * 256) = N8 x1 * 256 := IntWalk.i64_in _ (by unfold N8; omega)
  clear hx0 hx1 hv
  generalize num (l.take 2) = z at *
  clear hb hl
  go_enter Tryd.func65, Tryd.ntmps65
  go_wp2_with fail
  (refine wp_region_ext (by kernel_rfl) (by kernel_rfl) ?_; (repeat (go_big_quiet_step ((fail)))); refine wpQuiet_nil ?_; rintro _ ⟨y, rfl⟩)
  go_wp2_with fail
  go_ret
  exact ⟨rfl, y.h⟩
/-- the error of a region -/
def regE (n : Nat) (sec pgs : Int) : Int := if pgs < 1 ∨ 1023 < pgs then 3 else if sec < 0 ∨ (n : Int) - 8 * (pgs + 2) < sec then 1 else 0
set_option maxRecDepth 100000 in
theorem region_any (d : DV) (sec pgs : Int) (w : World) (hn : d.n ≤ 16384) :
    Calls Tryd.prog 40 #[d.v, .int .i64 sec, .int .i64 pgs] w fun e w' => e = .returned (.int .i64 (regE d.n sec pgs)) ∧ Below w.heap.size w w' := by
  have HSe := hid (fun w' => sectors_any d w')
  unfold DV.v at HSe ⊢
  have hB0 : Below w.heap.size w (w.alloc (.cells #[.int .i64 d.n, .pointer d.s, .pointer d.c, .pointer d.l, .int .i64 d.m] 27)) := (Below.refl _ _).alloc (Nat.le_refl _) _
  unfold regE
  by_cases h1 : pgs < 1
  · rw [if_pos (.inl h1)]
    go_enter Tryd.func40, Tryd.ntmps40
    go_wp2_with fail
    go_ret
    exact ⟨rfl, hB0⟩
  · by_cases h2 : 1023 < pgs
    · have t2 : pgs > 1023 := h2
      rw [if_pos (.inr h2)]
      go_enter Tryd.func40, Tryd.ntmps40
      go_wp2_with fail
      go_ret
      exact ⟨rfl, hB0⟩
    · have t2 : ¬ pgs > 1023 := h2
      rw [if_neg (by omega)]
      by_cases h3 : sec < 0
      · rw [if_pos (.inl h3)]
        go_enter Tryd.func40, Tryd.ntmps40
        go_wp2_with fail
        go_ret
        exact ⟨rfl, hB0⟩
      · have e1 := IntWalk.i64_in (pgs + 2) (by omega)
        have e2 := IntWalk.i64_in (8 * (pgs + 2)) (by omega)
        have e3 := IntWalk.i64_in ((d.n : Int) - 8 * (pgs + 2)) (by omega)
        by_cases h4 : (d.n : Int) - 8 * (pgs + 2) < sec
        · have t4 : sec > (d.n : Int) - 8 * (pgs + 2) := h4
          rw [if_pos (.inr h4)]
          go_enter Tryd.func40, Tryd.ntmps40
          go_wp2_with fail
          refine (HSe.out _).mono ?_
          rintro e w2 ⟨rfl, b2⟩
          go_wp2_with fail
          go_ret
          exact ⟨rfl, hB0.trans (b2.mono hB0.size)⟩
        · have t4 : ¬ sec > (d.n : Int) - 8 * (pgs + 2) := h4
          rw [if_neg (by omega)]
          go_enter Tryd.func40, Tryd.ntmps40
          go_wp2_with fail
          refine (HSe.out _).mono ?_
          rintro e w2 ⟨rfl, b2⟩
          go_wp2_with fail
          go_ret
          exact ⟨rfl, hB0.trans (b2.mono hB0.size)⟩
end Go.Proofs.YtanglofabkbllaaDoor
set_option linter.unusedSimpArgs false
set_option linter.unusedVariables false
namespace Go.Proofs.YtanglofabkbllaaDoor
open Go.RowKit

theorem run_bytes_new {P : Program} (w : World) (src dst e : TypeId) (l : List UInt8) (hs : P.underlying src = some .string) (hd : P.underlying dst = some (.slice e)) (he : P.underlying e = some (.int .u8)) (hm : l.length ≤ 1000000) :
    ∃ c w', (convert src dst (.string ⟨l.toArray⟩)).run P w = .ok (.slice (some ⟨w.heap.size, 0, none⟩) l.length c) w' ∧ RB w' (some ⟨w.heap.size, 0, none⟩) l.length l ∧ Below w.heap.size w w' := by
  have h := run_bytes_of_string (P := P) w src dst e ⟨l.toArray⟩ hs hd he
  have hsz : (⟨l.toArray⟩ : ByteArray).size = l.length := by show l.toArray.size = _; simp
  rw [hsz] at h
  refine ⟨_, _, h, ?_, ((Below.refl _ _).drew).alloc (Nat.le_refl _) _⟩
  obtain ⟨c, hc⟩ : ∃ z, grownCap w l.length 0 e = z := ⟨_, rfl⟩
  rw [hc]
  have hrow : (bytesRow ⟨l.toArray⟩ c).toList = l.map byV ++ List.replicate (c - l.length) (.int .u8 0) := by
    unfold bytesRow
    rw [hsz]
    simp
    intro a _
    rfl
  have hlen : (bytesRow ⟨l.toArray⟩ c).size = l.length + (c - l.length) := by
    rw [← Array.length_toList, hrow]
    simp
  have hr := RL.new w.drew (bytesRow ⟨l.toArray⟩ c) e ((bytesRow ⟨l.toArray⟩ c).size, (bytesRow ⟨l.toArray⟩ c).size + 1) 1 (l.length + (c - l.length)) (by rw [hlen]; omega)
  have := hr.pre (k := l.length) (by omega)
  rw [hrow, Nat.mul_one, List.take_left' (by simp)] at this
  exact this
set_option maxRecDepth 100000 in
set_option maxHeartbeats 2000000 in
theorem root_any (p : Pgr) (w : World) (hp : p.ok) :
    Calls Tryd.prog 14 #[p.v] w fun e w' => ∃ (g c : Nat), e = .returned (.tuple #[.int .i64 p.root, .int .u64 p.num, .slice (some ⟨g, 0, none⟩) p.mt.length c]) ∧ RB w' (some ⟨g, 0, none⟩) p.mt.length p.mt ∧ Below w.heap.size w w' := by
  have hmt := hp.mt
  unfold Pgr.v
  have hP : Blk (w.alloc (.cells p.cs.toArray 37)) w.heap.size 37 p.cs := Blk.new w _ _
  have hB : Below w.heap.size w (w.alloc (.cells p.cs.toArray 37)) := (Below.refl _ _).alloc (Nat.le_refl _) _
  go_enter Tryd.func14, Tryd.ntmps14
  go_wp2_with fail
  generalize w.alloc (.cells p.cs.toArray 37) = w1 at hP hB ⊢
  have lP := hP.lt
  refine wp_region_head 15 13 [5, 6, 7, 8, 9, 10, 11, 12, 13, 14, 2, 3, 4] [] ((fun kq => ([fun u w' => u = .pointer (some ⟨w.heap.size, 7, none⟩), fun u w' => u = .pointer (some ⟨w.heap.size, 7, none⟩), fun u w' => u = .int .i64 p.root, fun u w' => u = .pointer (some ⟨w.heap.size, 7, none⟩), fun u w' => u = .pointer (some ⟨w.heap.size, 8, none⟩), fun u w' => u = .int .u64 p.num, fun u w' => u = .pointer (some ⟨w.heap.size, 7, none⟩), fun u w' => u = .pointer (some ⟨w.heap.size, 9, none⟩), fun u w' => u = .string ⟨p.mt.toArray⟩, fun u w' => ∃ (g14 : Nat), ∃ (c14 : Nat), u = .slice (some ⟨g14, 0, none⟩) p.mt.length c14 ∧ RB w' (some ⟨g14, 0, none⟩) p.mt.length p.mt, fun u w' => u = .int .i64 p.root, fun u w' => u = .int .u64 p.num, fun u w' => ∃ (g14 : Nat), ∃ (c14 : Nat), u = .slice (some ⟨g14, 0, none⟩) p.mt.length c14 ∧ RB w' (some ⟨g14, 0, none⟩) p.mt.length p.mt] : List (Value → World → Prop)).getD kq (fun _ _ => True))) (by kernel_rfl) rfl (by kernel_rfl) (.inl rfl) ?grow ?step ?tail
  case step =>
    simp only [List.take_succ_cons, List.take_zero]
    refine HSteps.cons ?_ ?_
    · intro f w' hb hU
      simp only [putAll, List.foldl_cons, List.foldl_nil]
      go_frame
      go_wp2_with fail
      exact ⟨rfl, _, rfl, Below.refl _ _, rfl⟩
    refine HSteps.cons ?_ ?_
    · intro f w' hb hU
      obtain u0 : f 5 = .pointer (some ⟨w.heap.size, 7, none⟩) := hU.get ⟨0, .data⟩ (by simp) rfl
      simp only [putAll, List.foldl_cons, List.foldl_nil]
      go_frame
      try simp only [u0]
      go_wp2_with fail
      exact ⟨rfl, _, rfl, Below.refl _ _, rfl⟩
    refine HSteps.cons ?_ ?_
    · intro f w' hb hU
      obtain u1 : f 6 = .pointer (some ⟨w.heap.size, 7, none⟩) := hU.get ⟨1, .data⟩ (by simp) rfl
      obtain ⟨y0, y1, y2, y3, y4, y5, y6, y7, y8, y9⟩ := Pgr.c10 (hP.keep hb)
      simp only [putAll, List.foldl_cons, List.foldl_nil]
      go_frame
      try simp only [u1]
      go_wp2_with fail
      exact ⟨rfl, _, rfl, Below.refl _ _, rfl⟩
    refine HSteps.cons ?_ ?_
    · intro f w' hb hU
      simp only [putAll, List.foldl_cons, List.foldl_nil]
      go_frame
      go_wp2_with fail
      exact ⟨rfl, _, rfl, Below.refl _ _, rfl⟩
    refine HSteps.cons ?_ ?_
    · intro f w' hb hU
      obtain u3 : f 8 = .pointer (some ⟨w.heap.size, 7, none⟩) := hU.get ⟨3, .data⟩ (by simp) rfl
      simp only [putAll, List.foldl_cons, List.foldl_nil]
      go_frame
      try simp only [u3]
      go_wp2_with fail
      exact ⟨rfl, _, rfl, Below.refl _ _, rfl⟩
    refine HSteps.cons ?_ ?_
    · intro f w' hb hU
      obtain u4 : f 9 = .pointer (some ⟨w.heap.size, 8, none⟩) := hU.get ⟨4, .data⟩ (by simp) rfl
      obtain ⟨y0, y1, y2, y3, y4, y5, y6, y7, y8, y9⟩ := Pgr.c10 (hP.keep hb)
      simp only [putAll, List.foldl_cons, List.foldl_nil]
      go_frame
      try simp only [u4]
      go_wp2_with fail
      exact ⟨rfl, _, rfl, Below.refl _ _, rfl⟩
    refine HSteps.cons ?_ ?_
    · intro f w' hb hU
      simp only [putAll, List.foldl_cons, List.foldl_nil]
      go_frame
      go_wp2_with fail
      exact ⟨rfl, _, rfl, Below.refl _ _, rfl⟩
    refine HSteps.cons ?_ ?_
    · intro f w' hb hU
      obtain u6 : f 11 = .pointer (some ⟨w.heap.size, 7, none⟩) := hU.get ⟨6, .data⟩ (by simp) rfl
      simp only [putAll, List.foldl_cons, List.foldl_nil]
      go_frame
      try simp only [u6]
      go_wp2_with fail
      exact ⟨rfl, _, rfl, Below.refl _ _, rfl⟩
    refine HSteps.cons ?_ ?_
    · intro f w' hb hU
      obtain u7 : f 12 = .pointer (some ⟨w.heap.size, 9, none⟩) := hU.get ⟨7, .data⟩ (by simp) rfl
      obtain ⟨y0, y1, y2, y3, y4, y5, y6, y7, y8, y9⟩ := Pgr.c10 (hP.keep hb)
      simp only [putAll, List.foldl_cons, List.foldl_nil]
      go_frame
      try simp only [u7]
      go_wp2_with fail
      exact ⟨rfl, _, rfl, Below.refl _ _, rfl⟩
    refine HSteps.cons ?_ ?_
    · intro f w' hb hU
      obtain u8 : f 13 = .string ⟨p.mt.toArray⟩ := hU.get ⟨8, .data⟩ (by simp) rfl
      obtain ⟨c14, w14, hrun, hrb, hb14⟩ := run_bytes_new (P := Tryd.prog) w' 9 40 5 p.mt Tryd.underlying9 Tryd.underlying40 Tryd.underlying5 (by omega)
      simp only [putAll, List.foldl_cons, List.foldl_nil]
      go_frame
      try simp only [u8]
      go_wp2_with fail
      exact ⟨rfl, _, rfl, hb14, _, c14, rfl, hrb⟩
    refine HSteps.cons ?_ ?_
    · intro f w' hb hU
      obtain u2 : f 7 = .int .i64 p.root := hU.get ⟨2, .data⟩ (by simp) rfl
      obtain u0 : f 5 = .pointer (some ⟨w.heap.size, 7, none⟩) := hU.get ⟨0, .phase⟩ (by simp) rfl
      obtain u1 : f 6 = .pointer (some ⟨w.heap.size, 7, none⟩) := hU.get ⟨1, .phase⟩ (by simp) rfl
      simp only [putAll, List.foldl_cons, List.foldl_nil]
      go_frame
      try simp only [u2, u0, u1]
      go_wp2_with fail
      exact ⟨rfl, _, rfl, Below.refl _ _, rfl⟩
    refine HSteps.cons ?_ ?_
    · intro f w' hb hU
      obtain u5 : f 10 = .int .u64 p.num := hU.get ⟨5, .data⟩ (by simp) rfl
      obtain u10 : f 2 = .int .i64 p.root := hU.get ⟨10, .chain⟩ (by simp) rfl
      obtain u0 : f 5 = .pointer (some ⟨w.heap.size, 7, none⟩) := hU.get ⟨0, .phase⟩ (by simp) rfl
      obtain u1 : f 6 = .pointer (some ⟨w.heap.size, 7, none⟩) := hU.get ⟨1, .phase⟩ (by simp) rfl
      obtain u2 : f 7 = .int .i64 p.root := hU.get ⟨2, .phase⟩ (by simp) rfl
      obtain u3 : f 8 = .pointer (some ⟨w.heap.size, 7, none⟩) := hU.get ⟨3, .phase⟩ (by simp) rfl
      obtain u4 : f 9 = .pointer (some ⟨w.heap.size, 8, none⟩) := hU.get ⟨4, .phase⟩ (by simp) rfl
      simp only [putAll, List.foldl_cons, List.foldl_nil]
      go_frame
      try simp only [u5, u10, u0, u1, u2, u3, u4]
      go_wp2_with fail
      exact ⟨rfl, _, rfl, Below.refl _ _, rfl⟩
    refine HSteps.cons ?_ ?_
    · intro f w' hb hU
      obtain ⟨g14, c14, u9, v9_0⟩ : ∃ (g14 : Nat), ∃ (c14 : Nat), f 14 = .slice (some ⟨g14, 0, none⟩) p.mt.length c14 ∧ RB w' (some ⟨g14, 0, none⟩) p.mt.length p.mt := hU.get ⟨9, .data⟩ (by simp) rfl
      obtain u11 : f 3 = .int .u64 p.num := hU.get ⟨11, .chain⟩ (by simp) rfl
      obtain u0 : f 5 = .pointer (some ⟨w.heap.size, 7, none⟩) := hU.get ⟨0, .phase⟩ (by simp) rfl
      obtain u1 : f 6 = .pointer (some ⟨w.heap.size, 7, none⟩) := hU.get ⟨1, .phase⟩ (by simp) rfl
      obtain u2 : f 7 = .int .i64 p.root := hU.get ⟨2, .phase⟩ (by simp) rfl
      obtain u3 : f 8 = .pointer (some ⟨w.heap.size, 7, none⟩) := hU.get ⟨3, .phase⟩ (by simp) rfl
      obtain u4 : f 9 = .pointer (some ⟨w.heap.size, 8, none⟩) := hU.get ⟨4, .phase⟩ (by simp) rfl
      obtain u5 : f 10 = .int .u64 p.num := hU.get ⟨5, .phase⟩ (by simp) rfl
      obtain u6 : f 11 = .pointer (some ⟨w.heap.size, 7, none⟩) := hU.get ⟨6, .phase⟩ (by simp) rfl
      obtain u7 : f 12 = .pointer (some ⟨w.heap.size, 9, none⟩) := hU.get ⟨7, .phase⟩ (by simp) rfl
      obtain u8 : f 13 = .string ⟨p.mt.toArray⟩ := hU.get ⟨8, .phase⟩ (by simp) rfl
      obtain u10 : f 2 = .int .i64 p.root := hU.get ⟨10, .phase⟩ (by simp) rfl
      simp only [putAll, List.foldl_cons, List.foldl_nil]
      go_frame
      try simp only [u9, u11, u0, u1, u2, u3, u4, u5, u6, u7, u8, u10]
      go_wp2_with fail
      exact ⟨rfl, _, rfl, Below.refl _ _, g14, c14, rfl, v9_0⟩
    exact HSteps.nil
  case grow =>
    intro kq u wa wb hb hu
    rcases kq with _ | _ | _ | _ | _ | _ | _ | _ | _ | _ | _ | _ | _ | kq
    · exact hu
    · exact hu
    · exact hu
    · exact hu
    · exact hu
    · exact hu
    · exact hu
    · exact hu
    · exact hu
    · obtain ⟨g14, c14, ue, uf0⟩ := hu
      exact ⟨g14, c14, ue, uf0.below hb⟩
    · exact hu
    · exact hu
    · obtain ⟨g14, c14, ue, uf0⟩ := hu
      exact ⟨g14, c14, ue, uf0.below hb⟩
    · trivial
  case tail =>
    intro f w7 hb7 hU
    obtain u10 : f 2 = .int .i64 p.root := hU.get 10 (by decide)
    obtain u11 : f 3 = .int .u64 p.num := hU.get 11 (by decide)
    obtain ⟨g14, c14, u12, v12_0⟩ : ∃ (g14 : Nat), ∃ (c14 : Nat), f 4 = .slice (some ⟨g14, 0, none⟩) p.mt.length c14 ∧ RB w7 (some ⟨g14, 0, none⟩) p.mt.length p.mt := hU.get 12 (by decide)
    simp only [List.drop_succ_cons, List.drop_zero, putAll, List.foldl_cons, List.foldl_nil]
    go_frame
    simp only [u10, u11, u12]
    clear u10 u11 u12
    clear hU
    go_wp2_with fail
    refine bodyPost_ret (v := .tuple #[.int .i64 p.root, .int .u64 p.num, .slice (some ⟨g14, 0, none⟩) p.mt.length c14]) (by simp [results, Tryd.results14, go_sem]) rfl ⟨g14, c14, rfl, v12_0, hB.trans (hb7.mono hB.size)⟩
end Go.Proofs.YtanglofabkbllaaDoor
