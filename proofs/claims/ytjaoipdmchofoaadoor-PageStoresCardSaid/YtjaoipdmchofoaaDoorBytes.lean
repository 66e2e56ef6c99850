/- Decode and the reference's Decode at whatever bytes; the walk of PageBytes. Conditions: the table of remainders is laid; the bytes read. -/
import Derived.Test.YtjaoipdmchofoaaDoorRefDec
set_option linter.unusedSimpArgs false
set_option linter.unusedVariables false
namespace Go.Proofs.YtjaoipdmchofoaaDoor
open Go.RowKit

theorem decode_any (A : Option Addr) (n c : Nat) (l : List UInt8) (w : World) (hT : Tab w) (hb : RB w A n l) (hc : n ≤ c) (hm : c ≤ 9223372036854775807) :
    Calls Tryd.prog 16 #[.slice A n c] w fun e w' => ∃ p : Pg, e = .returned (.tuple #[p.v, .int .i64 (decoded l).err]) ∧ Reads w' p (decoded l) ∧ Below w.heap.size w w' := by
  have hl := hb.len
  by_cases hn : n = 1024
  · subst hn
    by_cases hs : l.drop 1020 = sumBytes (Crc.crc (l.take 1020))
    · have hd : l = sealed (l.take 1020) := by
        unfold sealed
        rw [← hs, List.take_append_drop]
      have e : decoded l = pageOf (l.take 1020) := by
        unfold decoded
        rw [if_neg (by rw [hl]; simp), if_pos hs]
      rw [e]
      rw [hd] at hb
      exact decode_form A c (l.take 1020) w hT hb (by simp [hl]) hc hm
    · have e : decoded l = ⟨0, 0, 0, [], 29⟩ := by
        unfold decoded
        rw [if_neg (by rw [hl]; simp), if_neg hs]
      rw [e]
      exact (decode_sum A c l w hT hb hc hm hs).mono fun e w' ⟨h1, h2⟩ => ⟨noPg, h1, noReads _ _, h2⟩
  · have e : decoded l = ⟨0, 0, 0, [], 15⟩ := by
      unfold decoded
      rw [if_pos (by rw [hl]; exact hn)]
    rw [e]
    exact (decode_short A n c w hn).mono fun e w' ⟨h1, h2⟩ => ⟨noPg, h1, noReads _ _, h2⟩
theorem refDec_any (A : Option Addr) (n c : Nat) (l : List UInt8) (w : World) (hb : RB w A n l) (hc : n ≤ c) (hm : c ≤ 9223372036854775807) :
    Calls Tryd.prog 17 #[.slice A n c] w fun e w' => ∃ p : Pg, e = .returned (.tuple #[p.v, .int .i64 (decoded l).err]) ∧ Reads w' p (decoded l) ∧ Below w.heap.size w w' := by
  have hl := hb.len
  by_cases hn : n = 1024
  · subst hn
    exact refDec_long A c l w hb hc hm
  · have e : decoded l = ⟨0, 0, 0, [], 15⟩ := by
      unfold decoded
      rw [if_pos (by rw [hl]; exact hn)]
    rw [e]
    exact (refDec_short A n c w hn).mono fun e w' ⟨h1, h2⟩ => ⟨noPg, h1, noReads _ _, h2⟩
theorem Reads.below {w w' : World} {p : Pg} {d : Dec} (h : Reads w p d) (hb : Below w.heap.size w w') : Reads w' p d := ⟨h.ok.below hb, h.id, h.stamp, h.kind, h.body⟩
theorem same_reads (p q : Pg) (d : Dec) (w : World) (hp : Reads w p d) (hq : Reads w q d) :
    Calls Tryd.prog 18 #[p.v, q.v] w fun e w' => e = .returned (.bool true) ∧ Below w.heap.size w w' :=
  (same_law p.id q.id p.kind q.kind p.stamp q.stamp p.A q.A p.n p.c q.n q.c p.l q.l w hp.ok.rb hq.ok.rb).mono fun e w' ⟨h1, h2⟩ =>
    ⟨by rw [h1, decide_eq_true ⟨hp.id.trans hq.id.symm, hp.stamp.trans hq.stamp.symm, hp.kind.trans hq.kind.symm, hp.body.trans hq.body.symm⟩], h2⟩
theorem err_lim (l : List UInt8) : 0 ≤ (decoded l).err ∧ (decoded l).err ≤ 29 := by
  have h : ∀ d, 0 ≤ (pageOf d).err ∧ (pageOf d).err ≤ 29 := fun d => by
    unfold pageOf
    dsimp only
    split
    · exact ⟨Int.le_refl _, (by decide : (0 : Int) ≤ 29)⟩
    · exact ⟨by decide, by decide⟩
  unfold decoded
  split
  · exact ⟨by decide, by decide⟩
  · split
    · exact h _
    · exact ⟨by decide, by decide⟩

theorem bytes_walk (A : Option Addr) (n c : Nat) (l : List UInt8) (w : World) (hT : Tab w) (hb : RB w A n l) (hc : n ≤ c) (hm : c ≤ 9223372036854775807) :
    Calls Tryd.prog 5 #[.slice A n c] w fun e w' => e = .returned (.bool true) ∧ Below w.heap.size w w' := by
  by_cases hn : n > 1100
  · have hn' : (n : Int) > 1100 := by omega
    go_enter Tryd.func5, Tryd.ntmps5
    go_wp2_with fail
    refine (awake_any _ hT).mono ?_
    rintro e w' ⟨rfl, hb⟩
    go_wp2_with fail
    go_ret
    exact ⟨rfl, hb⟩
  · have hn' : ¬ (n : Int) > 1100 := by omega
    obtain ⟨e0, e1⟩ := err_lim l
    go_enter Tryd.func5, Tryd.ntmps5
    go_wp2_with fail
    refine (decode_any A n c l _ hT hb hc hm).mono ?_
    rintro e w1 ⟨p, rfl, hp, b1⟩
    generalize hdl : decoded l = dl at *
    have HD := hid hdl
    clear hdl
    simp only [Pg.v, pageV]
    go_wp2_with fail
    have hP : Blk (w1.alloc (.cells #[.int .i64 p.id, .int .u64 p.stamp, .int .i64 p.kind, .slice p.A p.n p.c] 25)) w1.heap.size 25 [.int .i64 p.id, .int .u64 p.stamp, .int .i64 p.kind, .slice p.A p.n p.c] := Blk.new w1 _ _
    have hB : Below w1.heap.size w1 (w1.alloc (.cells #[.int .i64 p.id, .int .u64 p.stamp, .int .i64 p.kind, .slice p.A p.n p.c] 25)) := (Below.refl _ _).alloc (Nat.le_refl _) _
    have hS : (w1.alloc (.cells #[.int .i64 p.id, .int .u64 p.stamp, .int .i64 p.kind, .slice p.A p.n p.c] 25)).heap.size = w1.heap.size + 1 := by simp
    generalize (w1.alloc (.cells #[.int .i64 p.id, .int .u64 p.stamp, .int .i64 p.kind, .slice p.A p.n p.c] 25)) = w2 at hP hB hS ⊢
    have b2 := b1.trans (hB.mono b1.size)
    refine (refDec_any A n c l _ (hb.below b2) hc hm).mono ?_
    rw [HD.out]
    rintro e w3 ⟨q, rfl, hq, b3⟩
    have hp3 := (hp.below hB).below b3
    have hP3 := hP.keep b3
    have B3 := b2.trans (b3.mono b2.size)
    clear hP hp b1 hB b2 b3 hS
    simp only [Pg.v, pageV]
    obtain ⟨a0, a1, a2, a3⟩ := hP3.c4
    have hz := hP3.lt
    go_wp2_with fail
    have hP : Blk (w3.alloc (.cells #[.int .i64 q.id, .int .u64 q.stamp, .int .i64 q.kind, .slice q.A q.n q.c] 31)) w3.heap.size 31 [.int .i64 q.id, .int .u64 q.stamp, .int .i64 q.kind, .slice q.A q.n q.c] := Blk.new w3 _ _
    have hB : Below w3.heap.size w3 (w3.alloc (.cells #[.int .i64 q.id, .int .u64 q.stamp, .int .i64 q.kind, .slice q.A q.n q.c] 31)) := (Below.refl _ _).alloc (Nat.le_refl _) _
    have hS : (w3.alloc (.cells #[.int .i64 q.id, .int .u64 q.stamp, .int .i64 q.kind, .slice q.A q.n q.c] 31)).heap.size = w3.heap.size + 1 := by simp
    generalize (w3.alloc (.cells #[.int .i64 q.id, .int .u64 q.stamp, .int .i64 q.kind, .slice q.A q.n q.c] 31)) = w4 at hP hB hS ⊢
    refine (same_reads p q dl w4 (hp3.below hB) (hq.below hB)).mono ?_
    rintro e w5 ⟨rfl, b5⟩
    have B4 := B3.trans (hB.mono B3.size)
    have B5 := B4.trans (b5.mono B4.size)
    go_wp2_with fail
    refine (awake_any _ (hT.keep B5)).mono ?_
    rintro e w6 ⟨rfl, b6⟩
    go_wp2_with fail
    go_ret
    exact ⟨rfl, B5.trans (b6.mono B5.size)⟩
end Go.Proofs.YtjaoipdmchofoaaDoor
