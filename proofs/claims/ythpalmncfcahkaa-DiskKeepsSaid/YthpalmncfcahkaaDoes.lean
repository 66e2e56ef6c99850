/- The walk of DiskDoes. Conditions: the acts read. -/
import Derived.Test.YthpalmncfcahkaaDoW
import Derived.Test.YthpalmncfcahkaaDoC
import Derived.Test.YthpalmncfcahkaaAwake
set_option linter.unusedSimpArgs false
set_option linter.unusedVariables false
namespace Go.Proofs.Ythpalmncfcahkaa
open Go.RowKit

theorem do_any (N : Nat → Prop) (d : DV) (x : Rv) (a : Ac) (D X : Dk) (w : World) (hN : ∀ b, w.heap.size ≤ b → N b) (hd : DkV w d D) (hx : RefV N w x X) (hXn : X.n = D.n) (ha : a.ok) (hm : D.W.length ≤ 100000) (hmX : X.W.length ≤ 100000) :
    Calls Try.prog 21 #[d.v, x.v, a.v] w fun e w' => ∃ (d' : DV) (x' : Rv), e = .returned (.tuple #[d'.v, x'.v, .bool true]) ∧ DkV w' d' (doK D a) ∧ RefV N w' x' (doK X a) ∧ Below w.heap.size w w' := by
  by_cases h6 : a.act % 8 = 6
  · have e : ∀ Z, doK Z a = Z.sync := fun Z => by unfold doK; rw [if_pos h6]
    rw [e, e]
    exact do_sync N d x a D X w hN hd hx (by rw [hXn]; exact hd.hn) h6 ha.act
  · by_cases h7 : a.act % 8 = 7
    · have e : ∀ Z, doK Z a = Z.crash a.ch := fun Z => by unfold doK; rw [if_neg h6, if_pos h7]
      rw [e, e]
      exact do_crash N d x a D X w hN hd hx (by rw [hXn]; exact hd.hn) h7 (by omega) ha.ch
    · exact do_write N d x a D X w hN hd hx hXn ha h6 h7 hm hmX

theorem rv2 {w : World} {g : Nat} {t : TypeId} {x : Rv} (h : Blk w g t x.cs) : w.cell? ⟨g, 0, none⟩ = some (.slice x.S.A x.S.n x.S.c) ∧ w.cell? ⟨g, 1, none⟩ = some (.slice x.W.A x.W.n x.W.c) := h.c2
theorem ac_len (x : Ac) : x.cs.length = 5 := rfl
theorem actN : (Try.prog.info? 53).map (·.size) = some 5 := by kernel_rfl

set_option maxRecDepth 100000 in
set_option maxHeartbeats 4000000 in
theorem does_walk (n : Int) (A : Option Addr) (m c : Nat) (X : List Ac) (w : World) (hX : X.length = m) (hr : RL w 5 A m (X.flatMap Ac.cs)) (hok : ∀ x ∈ X, x.ok) (hmc : m ≤ c) (hc : c ≤ 9223372036854775807) :
    Calls Try.prog 5 #[.int .i64 n, .slice A m c] w fun e w' => e = .returned (.bool true) ∧ Below w.heap.size w w' := by
  have HOK := hid hok
  have HX := hid hX
  clear hok hX
  by_cases hbad : n < 1 ∨ 12 < n ∨ 60 < m
  · go_enter Try.func5, Try.ntmps5
    go_wp2_with fail
    refine (few_no n A m c w hbad).mono ?_
    rintro e w' ⟨rfl, rfl⟩
    go_wp2_with fail
    refine (awake_any w).mono ?_
    rintro e w1 ⟨rfl, b1⟩
    go_wp2_with fail
    go_ret
    exact ⟨rfl, b1⟩
  · obtain ⟨q, rfl⟩ : ∃ q : Nat, n = q := ⟨n.toNat, by omega⟩
    have h1 : 1 ≤ q := by omega
    have h2 : q ≤ 12 := by omega
    have h3 : m ≤ 60 := by omega
    clear hbad
    go_enter Try.func5, Try.ntmps5
    go_wp2_with fail
    refine (few_yes q A m c w h1 h2 h3).mono ?_
    rintro e w' ⟨rfl, rfl⟩
    go_wp2_with fail
    refine (new_ok q _ h1 (by omega)).mono ?_
    rintro e w1 ⟨rfl, b1⟩
    simp only [DV.v, show ((0 : Nat) : Int) = 0 from rfl]
    go_wp2_with fail
    have hP : Blk (w1.alloc (.cells #[.int .i64 q, .pointer none, .pointer none, .pointer none, .int .i64 0] 25)) w1.heap.size 25 [.int .i64 q, .pointer none, .pointer none, .pointer none, .int .i64 0] := Blk.new w1 _ _
    have hB : Below w1.heap.size w1 (w1.alloc (.cells #[.int .i64 q, .pointer none, .pointer none, .pointer none, .int .i64 0] 25)) := (Below.refl _ _).alloc (Nat.le_refl _) _
    have hS : (w1.alloc (.cells #[.int .i64 q, .pointer none, .pointer none, .pointer none, .int .i64 0] 25)).heap.size = w1.heap.size + 1 := by simp
    generalize (w1.alloc (.cells #[.int .i64 q, .pointer none, .pointer none, .pointer none, .int .i64 0] 25)) = w2 at hP hB hS ⊢
    have D2 : Bx w2 w1.heap.size ⟨q, none, none, none, 0⟩ (Dk.new q) := ⟨hP, DkV.new w2 q (by omega)⟩
    have B2 := b1.trans (hB.mono b1.size)
    have hG : w.heap.size ≤ w1.heap.size := b1.size
    clear b1 hB hS hP
    generalize w1.heap.size = G at *
    have hG2 := D2.k.lt
    refine (refNew_any q w2 (by omega) (fun b => b ≠ G ∧ b ≠ G) (fun b hb => ⟨by omega, by omega⟩)).mono ?_
    rintro e w3 ⟨x0, rfl, hx3, b3⟩
    have D3 := D2.keep b3
    have B3 := B2.trans (b3.mono B2.size)
    clear D2 b3
    simp only [Rv.v, Sl.v]
    obtain ⟨x0', x1', x2', x3', x4'⟩ := D3.k.c5
    have hH0 := D3.k.lt
    go_wp2_with fail
    have hP : Blk (w3.alloc (.cells #[.slice x0.S.A x0.S.n x0.S.c, .slice x0.W.A x0.W.n x0.W.c] 48)) w3.heap.size 48 [.slice x0.S.A x0.S.n x0.S.c, .slice x0.W.A x0.W.n x0.W.c] := Blk.new w3 _ _
    have hB : Below w3.heap.size w3 (w3.alloc (.cells #[.slice x0.S.A x0.S.n x0.S.c, .slice x0.W.A x0.W.n x0.W.c] 48)) := (Below.refl _ _).alloc (Nat.le_refl _) _
    have hS : (w3.alloc (.cells #[.slice x0.S.A x0.S.n x0.S.c, .slice x0.W.A x0.W.n x0.W.c] 48)).heap.size = w3.heap.size + 1 := by simp
    generalize (w3.alloc (.cells #[.slice x0.S.A x0.S.n x0.S.c, .slice x0.W.A x0.W.n x0.W.c] 48)) = w4 at hP hB hS ⊢
    have D4 := D3.keep hB
    have B4 := B3.trans (hB.mono B3.size)
    have hx4 := (hx3.lt.keep hB).mono (N' := fun b => b ≠ G ∧ b ≠ w3.heap.size) (fun b hb => ⟨hb.1.1, by omega⟩)
    have hH : G < w3.heap.size := D3.k.lt
    have X4 := (show Blk w4 w3.heap.size 48 x0.cs from hP)
    clear D3 hx3 hB hS hP B3 x0' x1' x2' x3' x4' hH0
    generalize w3.heap.size = H at *
    have HQ : Hid (∀ (b : Nat), w4.heap.size ≤ b → b ≠ G ∧ b ≠ H) := fun b hb => by have := X4.lt; have := D4.k.lt; omega
    have R1 := is_any (fun b => b ≠ G ∧ b ≠ H) ⟨q, none, none, none, 0⟩ x0 (Dk.new q) w4 D4.d hx4
    simp only [DV.v, Rv.v, Sl.v, show ((0 : Nat) : Int) = 0 from rfl] at R1
    refine R1.mono ?_
    clear R1
    rintro e w5 ⟨rfl, b5⟩
    have D5 := D4.keep b5
    have X5 := X4.keep b5
    have hx5 := hx4.keep b5
    have B5 := B4.trans (b5.mono B4.size)
    have hGH : w.heap.size ≤ H := by omega
    clear D4 X4 hx4 B4 b5 HQ
    go_wp2_with fail
    go_loopw [35] (fun i wr => ∃ (k : Nat) (d : DV) (x : Rv) (D : Dk), k ≤ m ∧ i = .int .i64 k ∧ D.n = q ∧ D.W.length ≤ k ∧ Bx wr G d D ∧ Blk wr H 48 x.cs ∧ RefV (fun b => b ≠ G ∧ b ≠ H) wr x D ∧ Below w.heap.size w wr) (fun i _ => m - (intOf i).toNat)
    case atStart => exact ⟨0, _, x0, Dk.new q, Nat.zero_le _, rfl, rfl, Nat.le_refl _, D5, X5, hx5, B5⟩
    case round =>
      obtain ⟨k, d, x, D, hk, rfl, hDn, hDW, Dr, Xr, hxr, hbel⟩ := hrel
      clear D5 X5 hx5 B5
      by_cases hlt : k < m
      · obtain ⟨b, off, a, rfl, hbb, hx, hcell⟩ := (hr.below hbel).el (f := Ac.cs) ac_len hlt (by omega)
        have e0 := hcell 0 _ rfl
        have e1 := hcell 1 _ rfl
        have e2 := hcell 2 _ rfl
        have e3 := hcell 3 _ rfl
        have e4 := hcell 4 _ rfl
        rw [Nat.add_zero] at e0
        have ha := HOK.out a (List.mem_of_getElem? hx)
        clear hcell hx
        obtain ⟨act, at_, aa, ab, ch⟩ := a
        dsimp only at e0 e1 e2 e3 e4
        obtain ⟨x0', x1', x2', x3', x4'⟩ := Dr.k.c5
        obtain ⟨y0, y1⟩ := rv2 Xr
        have hgl := Dr.k.lt
        have hhl := Xr.lt
        go_wp2_with fail
        have hP : Blk (wr.alloc (.cells #[.int .u8 act, .int .i16 at_, .int .u8 (N8 aa), .int .u8 (N8 ab), .int .u64 ch] 53)) wr.heap.size 53 [.int .u8 act, .int .i16 at_, .int .u8 (N8 aa), .int .u8 (N8 ab), .int .u64 ch] := Blk.new wr _ _
        have hB : Below wr.heap.size wr (wr.alloc (.cells #[.int .u8 act, .int .i16 at_, .int .u8 (N8 aa), .int .u8 (N8 ab), .int .u64 ch] 53)) := (Below.refl _ _).alloc (Nat.le_refl _) _
        have hS : (wr.alloc (.cells #[.int .u8 act, .int .i16 at_, .int .u8 (N8 aa), .int .u8 (N8 ab), .int .u64 ch] 53)).heap.size = wr.heap.size + 1 := by simp
        generalize (wr.alloc (.cells #[.int .u8 act, .int .i16 at_, .int .u8 (N8 aa), .int .u8 (N8 ab), .int .u64 ch] 53)) = w6 at hP hB hS ⊢
        have D6 := Dr.keep hB
        have X6 := Xr.keep hB
        have hx6 := hxr.keep hB
        have B6 := hbel.trans (hB.mono hbel.size)
        clear e0 e1 e2 e3 e4 x0' x1' x2' x3' x4' y0 y1 hP hB
        have R2 := do_any (fun b => b ≠ G ∧ b ≠ H) d x ⟨act, at_, aa, ab, ch⟩ D D w6 (fun b hb => by have := D6.k.lt; have := X6.lt; omega) D6.d hx6 rfl ha (by omega) (by omega)
        simp only [DV.v, Rv.v, Sl.v, Ac.v] at R2
        obtain ⟨D', hD'⟩ : ∃ z, doK D ⟨act, at_, aa, ab, ch⟩ = z := ⟨_, rfl⟩
        have hDn' : D'.n = q := by rw [← hD', doK_n, hDn]
        have hDW' : D'.W.length ≤ k + 1 := by rw [← hD']; exact Nat.le_trans (doK_W _ _) (by omega)
        rw [hD'] at R2
        clear hD'
        refine R2.mono ?_
        clear R2
        rintro e w7 ⟨d', x', rfl, hd7, hx7, b7⟩
        have D7 := D6.keep b7
        have X7 := X6.keep b7
        have hxo7 := hx6.keep b7
        have B7 := B6.trans (b7.mono B6.size)
        have hgl7 := D7.k.lt
        have hhl7 := X7.lt
        clear D6 X6 hx6 B6 b7 Dr Xr hxr hbel
        go_wp2_with fail
        generalize hw8 : World.alloc (World.alloc w7 _) _ = w8
        obtain ⟨kn, kx, hB⟩ := two_boxes_r (cs1 := d'.cs) (cs2 := x'.cs) hw8
        clear hw8
        have D8 := D7.keep hB
        have X8 := X7.keep hB
        have hxo8 := hxo7.keep hB
        have hd8 := hd7.keep hB
        have hx8 := hx7.keep hB
        have B8 := B7.trans (hB.mono B7.size)
        clear D7 X7 hxo7 hd7 hx7 B7 hB
        generalize w7.heap.size = g at *
        have R3 := is_any (fun b => b ≠ G ∧ b ≠ H) d' x' D' w8 hd8 hx8
        simp only [DV.v, Rv.v, Sl.v] at R3
        refine R3.mono ?_
        clear R3
        rintro e w9 ⟨rfl, b9⟩
        have D9 := D8.keep b9
        have X9 := X8.keep b9
        have hxo9 := hxo8.keep b9
        have hd9 := hd8.keep b9
        have hx9 := hx8.keep b9
        have kn9 := kn.keep b9
        have kx9 := kx.keep b9
        have B9 := B8.trans (b9.mono B8.size)
        clear D8 X8 hxo8 hd8 hx8 kn kx B8 b9
        obtain ⟨x0', x1', x2', x3', x4'⟩ := D9.k.c5
        obtain ⟨y0, y1⟩ := rv2 X9
        go_wp2_with fail
        have R4 := is_any (fun b => b ≠ G ∧ b ≠ H) d x D w9 D9.d hxo9
        simp only [DV.v, Rv.v, Sl.v] at R4
        refine R4.mono ?_
        clear R4
        rintro e w10 ⟨rfl, b10⟩
        have D10 := D9.keep b10
        have X10 := X9.keep b10
        have hd10 := hd9.keep b10
        have hx10 := hx9.keep b10
        have kn10 := kn9.keep b10
        have kx10 := kx9.keep b10
        have B10 := B9.trans (b10.mono B9.size)
        clear D9 X9 hxo9 hd9 hx9 kn9 kx9 B9 b10 x0' x1' x2' x3' x4' y0 y1
        have hGg : G < g + 1 := by omega
        have hHg : H < g := by omega
        have n1 : ¬ G = H := by omega
        have n2 : ¬ H = G := by omega
        have n3 : ¬ G = g + 1 := by omega
        have n4 : ¬ g + 1 = G := by omega
        have n5 : ¬ G = g := by omega
        have n6 : ¬ g = G := by omega
        have hS := set5 D10.k rfl (.int .i64 d'.n) (.pointer d'.s) (.pointer d'.c) (.pointer d'.l) (.int .i64 d'.m)
        have kH := (show Blk w10 H 48 [.slice x.S.A x.S.n x.S.c, .slice x.W.A x.W.n x.W.c] from X10).grown hS.2 (by simpa using n1)
        have kX := (show Blk w10 (g + 1) 48 [.slice x'.S.A x'.S.n x'.S.c, .slice x'.W.A x'.W.n x'.W.c] from kx10).grown hS.2 (by simpa using n3)
        have hS2 := set2 kH rfl (.slice x'.S.A x'.S.n x'.S.c) (.slice x'.W.A x'.W.n x'.W.c)
        have r4 := hS.1.grown hS2.2 (by simpa using n2)
        have r5 := hS2.1
        have hn9 := (hd10.kept (Kept.grown hS.2 D10.k notDk)).kept (Kept.grown hS2.2 kH notDkR)
        have hx9' := (hx10.grown hS.2 (fun g hg hq => by cases hg; exact hq.1 rfl)).grown hS2.2 (fun g hg hq => by cases hg; exact hq.2 rfl)
        have B9' := (B10.grown hS.2 B10.size (fun q hq => by cases hq; exact hG)).grown hS2.2 (by have := hS.2.size; have := B10.size; omega) (fun q hq => by cases hq; exact hGH)
        have HZ := hid (And.intro r4 (And.intro r5 (And.intro hn9 (And.intro hx9' B9'))))
        clear hS2 r4 r5 hn9 hx9' B9'
        obtain ⟨p0, p1, p2, p3, p4⟩ := kn10.c5
        obtain ⟨q0, q1⟩ := (show Blk w10 (g + 1) 48 [.slice x'.S.A x'.S.n x'.S.c, .slice x'.W.A x'.W.n x'.W.c] from kx10).c2
        obtain ⟨q0', q1'⟩ := kX.c2
        obtain ⟨x0', x1', x2', x3', x4'⟩ := D10.k.c5
        have xf := D10.k.fz
        obtain ⟨y0, y1⟩ := (show Blk w10 H 48 [.slice x.S.A x.S.n x.S.c, .slice x.W.A x.W.n x.W.c] from X10).c2
        have yf := X10.fz
        obtain ⟨y0', y1'⟩ := kH.c2
        have yf' := kH.fz
        go_wp2_with fail
        go_region
        all_goals (
          clear p0 p1 p2 p3 p4 q0 q1 q0' q1' x0' x1' x2' x3' x4' xf y0 y1 yf y0' y1' yf' kH kX hS
          obtain ⟨r4, r5, hn9, hx9', B9'⟩ := HZ.out
          clear HZ D10 X10 hd10 hx10 kn10 kx10 B10
          generalize World.setCell (World.setCell (World.setCell (World.setCell (World.setCell (World.setCell (World.setCell w10 _ _) _ _) _ _) _ _) _ _) _ _) _ _ = wz at *
          have bdr : Below wz.heap.size wz wz.drew := (Below.refl _ _).drew
          go_wp2_with fail
          go_roundw
          case rel => exact ⟨k + 1, d', x', D', by omega, by go_num, hDn', hDW', ⟨r4.keep bdr, hn9.keep bdr⟩, r5.keep bdr, hx9'.keep bdr, B9'.drew⟩
          case measure => simp [intOf]; omega)
      · obtain rfl : k = m := by omega
        go_wp2_with fail
        refine (awake_any wr).mono ?_
        rintro e w6 ⟨rfl, b6⟩
        go_wp2_with fail
        go_ret
        exact ⟨rfl, hbel.trans (b6.mono hbel.size)⟩
end Go.Proofs.Ythpalmncfcahkaa
