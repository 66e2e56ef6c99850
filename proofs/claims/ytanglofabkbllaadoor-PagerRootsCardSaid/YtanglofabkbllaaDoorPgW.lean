/- Write of package page, walked. Conditions: the disk reads; the page reads; the table of remainders is laid. -/
import Derived.Test.YtanglofabkbllaaDoorHelp
import Derived.Test.YtanglofabkbllaaDoorDiskRW
set_option linter.unusedSimpArgs false
set_option linter.unusedVariables false
namespace Go.Proofs.YtanglofabkbllaaDoor
open Go.RowKit

/-- the disk after k sectors of b have been written from a sector on -/
def put (D : Dk) (at_ : Nat) (b : List UInt8) : Nat → Dk
  | 0 => D
  | k + 1 => (put D at_ b k).write (at_ + k) ((b.drop (k * 128)).take 128)
theorem put_n (D : Dk) (at_ : Nat) (b : List UInt8) : ∀ k, (put D at_ b k).n = D.n
  | 0 => rfl
  | k + 1 => put_n D at_ b k
theorem put_W (D : Dk) (at_ : Nat) (b : List UInt8) : ∀ k, (put D at_ b k).W.length = D.W.length + k
  | 0 => rfl
  | k + 1 => by
    show (put D at_ b k).W.length + 1 = _
    rw [put_W D at_ b k]; rfl

theorem inside_yes (d : DV) (s : Nat) (w : World) (h : s + 8 ≤ d.n) (hn : d.n ≤ 16384) :
    Calls Tryd.prog 63 #[d.v, .int .i64 s] w fun e w' => e = .returned (.bool true) ∧ Below w.heap.size w w' := by
  have h1 : (s : Int) ≤ (d.n : Int) - 8 := by omega
  have h2 : (s : Int) ≥ 0 := by omega
  rw [show d.v = Value.agg #[.int .i64 d.n, .pointer d.s, .pointer d.c, .pointer d.l, .int .i64 d.m] from rfl]
  go_enter Tryd.func63, Tryd.ntmps63
  go_wp2_with fail
  refine (sectors_any d _).mono ?_
  rintro e w2 ⟨rfl, b2⟩
  go_wp2_with fail
  go_ret
  exact ⟨rfl, ((Below.refl _ _).alloc (Nat.le_refl _) _).trans (b2.mono (by simp))⟩
theorem inside_no (d : DV) (s : Int) (w : World) (h : s < 0 ∨ (d.n : Int) < s + 8) (hn : d.n ≤ 16384) (h0 : -9223372036854775808 ≤ s) (hs : s ≤ 9223372036854775807) :
    Calls Tryd.prog 63 #[d.v, .int .i64 s] w fun e w' => e = .returned (.bool false) ∧ Below w.heap.size w w' := by
  rw [show d.v = Value.agg #[.int .i64 d.n, .pointer d.s, .pointer d.c, .pointer d.l, .int .i64 d.m] from rfl]
  by_cases h1 : s < 0
  · have h2 : ¬ s ≥ 0 := by omega
    clear h
    go_enter Tryd.func63, Tryd.ntmps63
    go_wp2_with fail
    go_ret
    exact ⟨rfl, (Below.refl _ _).alloc (Nat.le_refl _) _⟩
  · have h2 : s ≥ 0 := by omega
    have h3 : decide (s ≤ (d.n : Int) - 8) = false := by simp; omega
    clear h
    go_enter Tryd.func63, Tryd.ntmps63
    go_wp2_with fail
    refine (sectors_any d _).mono ?_
    rintro e w2 ⟨rfl, b2⟩
    go_wp2_with fail
    go_ret
    exact ⟨rfl, ((Below.refl _ _).alloc (Nat.le_refl _) _).trans (b2.mono (by simp))⟩
theorem three_boxes {w : World} {T1 T2 T3 : TypeId} {cs1 cs2 cs3 : List Value} {w3 : World} (e : ((w.alloc (.cells cs1.toArray T1)).alloc (.cells cs2.toArray T2)).alloc (.cells cs3.toArray T3) = w3) :
    Blk w3 w.heap.size T1 cs1 ∧ Blk w3 (w.heap.size + 1) T2 cs2 ∧ Blk w3 (w.heap.size + 2) T3 cs3 ∧ Below w.heap.size w w3 := by
  obtain ⟨h1, h2, h3⟩ := two_boxes (w := w) (T1 := T1) (T2 := T2) (cs1 := cs1) (cs2 := cs2) (Below.refl _ _)
  subst e
  have b3 : Below ((w.alloc (.cells cs1.toArray T1)).alloc (.cells cs2.toArray T2)).heap.size ((w.alloc (.cells cs1.toArray T1)).alloc (.cells cs2.toArray T2)) (((w.alloc (.cells cs1.toArray T1)).alloc (.cells cs2.toArray T2)).alloc (.cells cs3.toArray T3)) := (Below.refl _ _).alloc (Nat.le_refl _) _
  refine ⟨h1.keep b3, h2.keep b3, ?_, h3.trans (b3.mono h3.size)⟩
  have := Blk.new ((w.alloc (.cells cs1.toArray T1)).alloc (.cells cs2.toArray T2)) T3 cs3
  rwa [show ((w.alloc (.cells cs1.toArray T1)).alloc (.cells cs2.toArray T2)).heap.size = w.heap.size + 2 by simp] at this

theorem set5p {w : World} {g : Nat} {t : TypeId} {cs : List Value} (h : Blk w g t cs) (hl : cs.length = 5) (a b c d e : Value) :
    Blk (((((w.setCell ⟨g, 0, none⟩ a).setCell ⟨g, 1, none⟩ b).setCell ⟨g, 2, none⟩ c).setCell ⟨g, 3, none⟩ d).setCell ⟨g, 4, none⟩ e) g t [a, b, c, d, e] ∧
    w.grownBy (((((w.setCell ⟨g, 0, none⟩ a).setCell ⟨g, 1, none⟩ b).setCell ⟨g, 2, none⟩ c).setCell ⟨g, 3, none⟩ d).setCell ⟨g, 4, none⟩ e) (some g) := by
  match cs, hl with
  | [x0, x1, x2, x3, x4], _ =>
    have h0 := h.set_ 0 a
    have h1 := h0.set_ 1 b
    have h2 := h1.set_ 2 c
    have h3 := h2.set_ 3 d
    have h4 := h3.set_ 4 e
    exact ⟨h4, ((((h.setg 0 a).trans (h0.setg 1 b)).trans (h1.setg 2 c)).trans (h2.setg 3 d)).trans (h3.setg 4 e)⟩

theorem pwrite_bad (d : DV) (p : Pg) (s : Int) (w : World) (hp : p.n ≤ 9223372036854775807) (hw : wrong p.id p.kind p.n ≠ 0) :
    Calls Tryd.prog 41 #[d.v, .int .i64 s, p.v] w fun e w' => e = .returned (.tuple #[DV.zero.v, .int .i64 (wrong p.id p.kind p.n)]) ∧ Below w.heap.size w w' := by
  obtain ⟨id, stamp, kind, A, n, c, l⟩ := p
  dsimp only at hw hp
  have hw2 : (wrong id kind n == 0) = false := by rw [beq_eq_false_iff_ne]; exact hw
  have hw3 : (wrong id kind n != 0) = true := by rw [bne_iff_ne]; exact hw
  rw [show d.v = Value.agg #[.int .i64 d.n, .pointer d.s, .pointer d.c, .pointer d.l, .int .i64 d.m] from rfl]
  simp only [Pg.v, pageV]
  go_enter Tryd.func41, Tryd.ntmps41
  go_wp2_with fail
  generalize hw1 : World.alloc (World.alloc (World.alloc w _) _) _ = w1
  obtain ⟨kd, kp, kr, hB⟩ := three_boxes (cs1 := [.int .i64 d.n, .pointer d.s, .pointer d.c, .pointer d.l, .int .i64 d.m]) (cs2 := [.int .i64 id, .int .u64 stamp, .int .i64 kind, .slice A n c]) (cs3 := DV.zero.cs) hw1
  clear hw1
  refine (encode_bad id kind stamp A n c _ hp hw).mono ?_
  rintro e w2 ⟨rfl, b2⟩
  have kr2 := kr.keep b2
  have B2 := hB.trans (b2.mono hB.size)
  clear hw
  go_wp2_with ((with_reducible refine is_store 27 ?_); refine wp_storeB _ _ _ DV.zero.cs kr2 diskN rfl (by decide) rfl rfl ?_; intro w9 kr9 r9; go_frame)
  obtain ⟨e0, e1, e2, e3, e4⟩ := kr9.c5
  refine bodyPost_ret (v := .tuple #[DV.zero.v, .int .i64 (wrong id kind n)]) (by simp [results, Tryd.results41, go_sem, e0, e1, e2, e3, e4]; rfl) rfl ⟨rfl, B2.grown r9 B2.size (fun k hk => by cases hk; omega)⟩
theorem pwrite_range (d : DV) (p : Pg) (s : Int) (w : World) (hT : Tab w) (hp : p.ok w) (hw : wrong p.id p.kind p.n = 0) (h : s < 0 ∨ (d.n : Int) < s + 8) (hn : d.n ≤ 16384) (h0 : -9223372036854775808 ≤ s) (hs : s ≤ 9223372036854775807) :
    Calls Tryd.prog 41 #[d.v, .int .i64 s, p.v] w fun e w' => e = .returned (.tuple #[DV.zero.v, .int .i64 3]) ∧ Below w.heap.size w w' := by
  obtain ⟨id, stamp, kind, A, n, c, l⟩ := p
  obtain ⟨rb, nc, cm, st, _, _, _, _⟩ := hp
  dsimp only at hw rb nc cm st
  obtain ⟨i, k, rfl, rfl, h1, h2, h3⟩ := right_of hw
  have HI := hid (fun w' => inside_no d s w' h hn h0 hs)
  clear hw h h0 hs
  unfold DV.v at HI
  rw [show d.v = Value.agg #[.int .i64 d.n, .pointer d.s, .pointer d.c, .pointer d.l, .int .i64 d.m] from rfl]
  simp only [Pg.v, pageV]
  go_enter Tryd.func41, Tryd.ntmps41
  go_wp2_with fail
  generalize hw1 : World.alloc (World.alloc (World.alloc w _) _) _ = w1
  obtain ⟨kd, kp, kr, hB⟩ := three_boxes (cs1 := [.int .i64 d.n, .pointer d.s, .pointer d.c, .pointer d.l, .int .i64 d.m]) (cs2 := [.int .i64 i, .int .u64 stamp, .int .i64 k, .slice A n c]) (cs3 := DV.zero.cs) hw1
  clear hw1
  refine (encode_good i k stamp A n c l _ (hT.keep hB) (rb.below hB) h1 h2 h3 st).mono ?_
  rintro e w2 ⟨v, rfl, hown, b2⟩
  have kr2 := kr.keep b2
  have kd2 := kd.keep b2
  have B2 := hB.trans (b2.mono hB.size)
  obtain ⟨c0, c1, c2, c3, c4⟩ := kd2.c5
  go_wp2_with fail
  refine (HI.out _).mono ?_
  rintro e w3 ⟨rfl, b3⟩
  have kr3 := kr2.keep b3
  have B3 := B2.trans (b3.mono B2.size)
  go_wp2_with ((with_reducible refine is_store 27 ?_); refine wp_storeB _ _ _ DV.zero.cs kr3 diskN rfl (by decide) rfl rfl ?_; intro w9 kr9 r9; go_frame)
  obtain ⟨e0, e1, e2, e3, e4⟩ := kr9.c5
  refine bodyPost_ret (v := .tuple #[DV.zero.v, .int .i64 3]) (by simp [results, Tryd.results41, go_sem, e0, e1, e2, e3, e4]; rfl) rfl ⟨rfl, B3.grown r9 B3.size (fun k hk => by cases hk; omega)⟩

set_option maxRecDepth 100000 in
set_option maxHeartbeats 2000000 in
theorem pwrite_good (d : DV) (D : Dk) (p : Pg) (s : Nat) (w : World) (hT : Tab w) (hd : DkV w d D) (hp : p.ok w) (id kind : Nat) (hid1 : p.id = id) (hid2 : id ≤ 2147483647) (hk1 : p.kind = kind) (hk2 : kind ≤ 255) (hn : p.n ≤ 1000) (h : s + 8 ≤ D.n) (hm : D.W.length ≤ 1000000) :
    Calls Tryd.prog 41 #[d.v, .int .i64 s, p.v] w fun e w' => ∃ d' : DV, e = .returned (.tuple #[d'.v, .int .i64 0]) ∧ DkV w' d' (put D s (encoded id p.stamp kind p.l) 8) ∧ Below w.heap.size w w' := by
  obtain ⟨id', stamp, kind', A, n, c, l⟩ := p
  obtain ⟨rb, nc, cm, st, _, _, _, _⟩ := hp
  dsimp only at hid1 hk1 hn rb nc cm st ⊢
  subst hid1 hk1
  generalize hBe : encoded id stamp kind l = B
  have HB := hid hBe
  clear hBe
  have hdn := hd.hn
  have HI := hid (fun w' => inside_yes d s w' (by rw [hd.n]; exact h) (by rw [hd.n]; exact hdn))
  unfold DV.v at HI
  rw [show d.v = Value.agg #[.int .i64 d.n, .pointer d.s, .pointer d.c, .pointer d.l, .int .i64 d.m] from rfl]
  simp only [Pg.v, pageV]
  go_enter Tryd.func41, Tryd.ntmps41
  go_wp2_with fail
  generalize hw1 : World.alloc (World.alloc (World.alloc w _) _) _ = w1
  obtain ⟨kd, kp, kr, hB⟩ := three_boxes (cs1 := [.int .i64 d.n, .pointer d.s, .pointer d.c, .pointer d.l, .int .i64 d.m]) (cs2 := [.int .i64 id, .int .u64 stamp, .int .i64 kind, .slice A n c]) (cs3 := DV.zero.cs) hw1
  clear hw1
  refine (encode_good id kind stamp A n c l _ (hT.keep hB) (rb.below hB) hid2 hk2 hn st).mono ?_
  rintro e w2 ⟨v, rfl, hown, b2⟩
  rw [HB.out] at hown
  obtain ⟨A2, c2, rfl, hr2, hc2, hm2⟩ := own_form hown
  obtain ⟨bb, oo, rfl, hbb, _⟩ := hr2.2 (by omega)
  have hr2' : RB w2 (some ⟨bb, oo, none⟩) 1024 B := hr2
  have kr2 := kr.keep b2
  have kd2 := kd.keep b2
  have B2 := hB.trans (b2.mono hB.size)
  obtain ⟨x0, x1, x2, x3, x4⟩ := kd2.c5
  go_wp2_with fail
  refine (HI.out _).mono ?_
  rintro e w3 ⟨rfl, b3⟩
  have kr3 := kr2.keep b3
  have kd3 := kd2.keep b3
  have B3 := B2.trans (b3.mono B2.size)
  have hd3 := hd.keep B3
  have hr3 := hr2'.below b3
  have hsz : w.heap.size + 2 < w3.heap.size := kr3.lt
  have hbw : w.heap.size < bb := by have := (hown.lt bb rfl).1; have := kr.lt; omega
  clear HI hown hr2 hr2' kr kd kr2 kd2 kp b2 b3 hB B2 rb x0 x1 x2 x3 x4 hd hbb hT
  go_wp2_with fail
  go_loopw [9, 10, 25] (fun e _ i wr => ∃ (k : Nat) (dv : DV), k ≤ 8 ∧ i = .int .i64 k ∧ e = .int .i64 0 ∧ Blk wr w.heap.size 27 dv.cs ∧ Blk wr (w.heap.size + 2) 27 DV.zero.cs ∧ DkV wr dv (put D s B k) ∧ RB wr (some ⟨bb, oo, none⟩) 1024 B ∧ Below w.heap.size w wr) (fun _ _ i _ => 8 - (intOf i).toNat)
  case atStart => exact ⟨0, d, by omega, rfl, rfl, kd3, kr3, hd3, hr3, B3⟩
  case round =>
    obtain ⟨k, dv, hk, rfl, rfl, kd4, kr4, hd4, hr4, hbel⟩ := hrel
    clear kd3 kr3 hd3 hr3 B3
    by_cases hlt : k < 8
    · have hW := hid (put_W D s B k)
      have hN := hid (put_n D s B k)
      obtain ⟨x0, x1, x2, x3, x4⟩ := kd4.c5
      have ks : ∀ wx, (Instr.slice 40 (.slice (some ⟨bb, oo, none⟩) 1024 c2) (some (.int .i64 ((k : Int) * 128))) (some (.int .i64 (((k : Int) + 1) * 128))) none).run Tryd.prog wx = .ok (.slice (some ⟨bb, oo + k * 128, none⟩) 128 (c2 - k * 128)) wx := fun wx => by
        have := run_part (P := Tryd.prog) 40 5 Tryd.underlying40 bytesN (some ⟨bb, oo, none⟩) 1024 c2 (k * 128) ((k + 1) * 128) .i64 .i64 ((k : Int) * 128) (((k : Int) + 1) * 128) (by omega) (by omega) (by omega) (by omega) wx
        rw [if_neg (by omega), show (k + 1) * 128 - k * 128 = 128 by omega] at this
        simpa [add_spot] using this
      have e1 := IntWalk.i64_in ((s : Int) + k) (by omega)
      have e2 := IntWalk.i64_in ((k : Int) * 128) (by omega)
      have e3 := IntWalk.i64_in ((k : Int) + 1) (by omega)
      have e4 := IntWalk.i64_in (((k : Int) + 1) * 128) (by omega)
      have bd : Below wr.heap.size wr wr.drew := (Below.refl _ _).drew
      have HC := hid (write_good dv (put D s B k) (some ⟨bb, oo + k * 128, none⟩) (c2 - k * 128) ((B.drop (k * 128)).take 128) (s + k) wr.drew (hd4.keep bd) (by rw [hN.out]; omega) (RB.sub (hr4.below bd) (k * 128) 128 (by omega)) (by rw [hW.out]; omega))
      unfold DV.v at HC
      have kd5 := kd4.keep bd
      go_wp2_with fail
      go_region_with (go_at_call 22; refine HC.out.mono ?_; rintro e w5 ⟨d5, rfl, hd5, b5⟩; obtain ⟨y0, y1, y2, y3, y4⟩ := (kd5.keep b5).c5; have yf := (kd5.keep b5).fz)
      go_wp2_with fail
      have hl5 : dv.cs.length = 5 := rfl
      obtain ⟨z1, z2⟩ := set5p (kd5.keep b5) hl5 (.int .i64 d5.n) (.pointer d5.s) (.pointer d5.c) (.pointer d5.l) (.int .i64 d5.m)
      generalize ((((w5.setCell ⟨w.heap.size, 0, none⟩ (.int .i64 d5.n)).setCell ⟨w.heap.size, 1, none⟩ (.pointer d5.s)).setCell ⟨w.heap.size, 2, none⟩ (.pointer d5.c)).setCell ⟨w.heap.size, 3, none⟩ (.pointer d5.l)).setCell ⟨w.heap.size, 4, none⟩ (.int .i64 d5.m) = w6 at z1 z2 ⊢
      have B5 := hbel.trans ((bd.trans b5).mono hbel.size)
      have kr5 := (kr4.keep bd).keep b5
      have hr5 := (hr4.below bd).below b5
      have hd6 := hd5.kept (Kept.grown z2 (kd5.keep b5) notDk)
      clear e1 e2 e3 e4 ks
      go_roundw
      case rel =>
        refine ⟨k + 1, d5, by omega, by go_num, rfl, z1, kr5.grown z2 (by simp), hd6, ?_, B5.grown z2 B5.size (fun q hq => by cases hq; exact Nat.le_refl _)⟩
        exact RL.grown hr5 z2 (fun q hq _ b' o' hb' => by cases hq; cases hb'; omega)
      case measure => simp [intOf]; omega
    · obtain rfl : k = 8 := by omega
      obtain ⟨x0, x1, x2, x3, x4⟩ := kd4.c5
      go_wp2_with ((with_reducible refine is_store 27 ?_); refine wp_storeB _ _ _ [.int .i64 dv.n, .pointer dv.s, .pointer dv.c, .pointer dv.l, .int .i64 dv.m] kr4 diskN rfl (by simp [Value.oneCell']) rfl rfl ?_; intro w9 kr9 r9; go_frame)
      obtain ⟨e0, e1, e2, e3, e4⟩ := kr9.c5
      refine bodyPost_ret (v := .tuple #[dv.v, .int .i64 0]) (by simp [results, Tryd.results41, go_sem, e0, e1, e2, e3, e4]; rfl) rfl ⟨_, rfl, hd4.kept (Kept.grown r9 kr4 notDk), hbel.grown r9 hbel.size (fun k hk => by cases hk; omega)⟩
end Go.Proofs.YtanglofabkbllaaDoor
