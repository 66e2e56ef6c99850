/- The walk of PageDecodes. Conditions: the table of remainders is laid; the argument reads. -/
import Derived.Test.YtjaoipdmchofoaaDoorForged
set_option linter.unusedSimpArgs false
set_option linter.unusedVariables false
namespace Go.Proofs.YtjaoipdmchofoaaDoor
open Go.RowKit

/-- what is accepted is encoded again to the same bytes -/
theorem decoded_ok (l : List UInt8) (h : (decoded l).err = 0) :
    (decoded l).id ≤ 2147483647 ∧ (decoded l).kind ≤ 255 ∧ (decoded l).body.length ≤ 1000 ∧ encoded (decoded l).id (decoded l).stamp (decoded l).kind (decoded l).body = l := by
  unfold decoded at h ⊢
  by_cases h1 : l.length ≠ 1024
  · rw [if_pos h1] at h; simp at h
  · rw [if_neg h1] at h ⊢
    have hl : l.length = 1024 := by omega
    by_cases h2 : l.drop 1020 = sumBytes (Crc.crc (l.take 1020))
    · rw [if_pos h2] at h ⊢
      have hd : (l.take 1020).length = 1020 := by simp [hl]
      obtain ⟨k, hk⟩ : ∃ k, l[16]? = some k := ⟨_, List.getElem?_eq_getElem (by omega)⟩
      have hkd : (l.take 1020)[16]? = some k := by rw [List.getElem?_take, if_pos (by omega), hk]
      by_cases hc : num (((l.take 1020).drop 4).take 4) ≤ 2147483647 ∧ num (((l.take 1020).drop 18).take 2) ≤ 1000
      · obtain ⟨c1, c2⟩ := hc
        rw [page_of (l.take 1020) _ _ _ k hd c2 c1 rfl rfl rfl hkd] at h ⊢
        rw [take_in _ _ _ _ (by omega), take_in _ _ _ _ (by omega), take_in _ _ _ _ (by omega)] at *
        by_cases h3 : (l.take 1020).take 4 = [79, 80, 71, 49] ∧ (l.take 1020)[17]? = some 0 ∧ ((l.take 1020).drop (20 + num ((l.drop 18).take 2))).all (· == 0) = true
        · rw [if_pos h3]
          refine ⟨c1, by have := k.toNat_lt; dsimp only; omega, by dsimp only; simp; omega, ?_⟩
          dsimp only
          rw [take_in _ _ _ _ (by omega)]
          exact (enc_iff l _ _ _ _ k hl rfl h2 c2 rfl rfl rfl hk).2 h3
        · rw [if_neg h3] at h; simp at h
      · unfold pageOf at h
        rw [if_neg (fun hh => hc ⟨hh.2.1, hh.2.2.2.1⟩)] at h
        simp at h
    · rw [if_neg h2] at h; simp at h

set_option maxRecDepth 100000 in
set_option maxHeartbeats 1000000 in
theorem decodes_walk (x : Fg) (w : World) (hT : Tab w) (hx : x.ok w) :
    Calls Tryd.prog 4 #[x.v] w fun e w' => e = .returned (.bool true) ∧ Below w.heap.size w w' := by
  have hxw := hx
  obtain ⟨⟨id, stamp, kind, A, n, c, l⟩, B, m, d, X, sl, cut⟩ := x
  obtain ⟨_, _, _, md, dm, _⟩ := hx
  have hFg := fun w2 (h : Fg.ok w2 _) h20 => forged_any ⟨⟨id, stamp, kind, A, n, c, l⟩, B, m, d, X, sl, cut⟩ w2 h h20
  have HF := hid hFg
  clear hFg
  simp only [Fg.v, Fg.cs, Pg.cs, List.cons_append, List.nil_append] at *
  by_cases hm : m > 20
  · have hm' : (m : Int) > 20 := by omega
    go_enter Tryd.func4, Tryd.ntmps4
    go_wp2_with fail
    refine (awake_any _ (hT.alloc _)).mono ?_
    rintro e w' ⟨rfl, hb⟩
    go_wp2_with fail
    go_ret
    exact ⟨rfl, ((Below.refl _ _).alloc (Nat.le_refl _) _).trans (hb.mono (by simp))⟩
  have hm' : ¬ (m : Int) > 20 := by omega
  go_enter Tryd.func4, Tryd.ntmps4
  go_wp2_with fail
  have hP : Blk (w.alloc (.cells #[.int .i64 id, .int .u64 stamp, .int .i64 kind, .slice A n c, .slice B m d, .bool sl, .int .u16 cut] 38)) w.heap.size 38 [.int .i64 id, .int .u64 stamp, .int .i64 kind, .slice A n c, .slice B m d, .bool sl, .int .u16 cut] := Blk.new w _ _
  have hB : Below w.heap.size w (w.alloc (.cells #[.int .i64 id, .int .u64 stamp, .int .i64 kind, .slice A n c, .slice B m d, .bool sl, .int .u16 cut] 38)) := (Below.refl _ _).alloc (Nat.le_refl _) _
  have hS : (w.alloc (.cells #[.int .i64 id, .int .u64 stamp, .int .i64 kind, .slice A n c, .slice B m d, .bool sl, .int .u16 cut] 38)).heap.size = w.heap.size + 1 := by simp
  generalize (w.alloc (.cells #[.int .i64 id, .int .u64 stamp, .int .i64 kind, .slice A n c, .slice B m d, .bool sl, .int .u16 cut] 38)) = w1 at hP hB hS ⊢
  have hx1 : Fg.ok w1 ⟨⟨id, stamp, kind, A, n, c, l⟩, B, m, d, X, sl, cut⟩ := ⟨hxw.p.below hB, hxw.r.below hB, hxw.ys, hxw.nc, hxw.cm, hxw.cut⟩
  refine (HF.out w1 hx1 (show m ≤ 20 by omega)).mono ?_
  clear HF hxw hx1 hP
  rintro e w2 ⟨A2, n2, c2, b, rfl, hb, hnc, hcm, b2⟩
  obtain ⟨e0, e1⟩ := err_lim b
  have B2 := hB.trans (b2.mono hB.size)
  go_wp2_with fail
  refine (decode_any A2 n2 c2 b _ (hT.keep B2) hb hnc hcm).mono ?_
  rintro e w3 ⟨p, rfl, hp, b3⟩
  have HOK := hid (decoded_ok b)
  have hpb := hp
  generalize hdl : decoded b = dl at *
  have HD := hid hdl
  clear hdl
  simp only [Pg.v, pageV]
  have B3 := B2.trans (b3.mono B2.size)
  have hb3 := hb.below b3
  clear hB b2 hS b3 hb
  go_wp2_with fail
  have hP : Blk (w3.alloc (.cells #[.int .i64 p.id, .int .u64 p.stamp, .int .i64 p.kind, .slice p.A p.n p.c] 25)) w3.heap.size 25 [.int .i64 p.id, .int .u64 p.stamp, .int .i64 p.kind, .slice p.A p.n p.c] := Blk.new w3 _ _
  have hB : Below w3.heap.size w3 (w3.alloc (.cells #[.int .i64 p.id, .int .u64 p.stamp, .int .i64 p.kind, .slice p.A p.n p.c] 25)) := (Below.refl _ _).alloc (Nat.le_refl _) _
  have hS : (w3.alloc (.cells #[.int .i64 p.id, .int .u64 p.stamp, .int .i64 p.kind, .slice p.A p.n p.c] 25)).heap.size = w3.heap.size + 1 := by simp
  generalize (w3.alloc (.cells #[.int .i64 p.id, .int .u64 p.stamp, .int .i64 p.kind, .slice p.A p.n p.c] 25)) = w4 at hP hB hS ⊢
  have B4 := B3.trans (hB.mono B3.size)
  have hb4 := hb3.below hB
  have hp4 := hp.below hB
  clear hp hB hS hpb hb3
  refine (refDec_any A2 n2 c2 b _ hb4 hnc hcm).mono ?_
  rw [HD.out]
  rintro e w5 ⟨q, rfl, hq, b5⟩
  have hp5 := hp4.below b5
  have hP5 := hP.keep b5
  have B5 := B4.trans (b5.mono B4.size)
  have hb5 := hb4.below b5
  clear hP hp4 b5 hb4
  simp only [Pg.v, pageV]
  obtain ⟨a0, a1, a2, a3⟩ := hP5.c4
  have hz := hP5.lt
  go_wp2_with fail
  have hP : Blk (w5.alloc (.cells #[.int .i64 q.id, .int .u64 q.stamp, .int .i64 q.kind, .slice q.A q.n q.c] 31)) w5.heap.size 31 [.int .i64 q.id, .int .u64 q.stamp, .int .i64 q.kind, .slice q.A q.n q.c] := Blk.new w5 _ _
  have hB : Below w5.heap.size w5 (w5.alloc (.cells #[.int .i64 q.id, .int .u64 q.stamp, .int .i64 q.kind, .slice q.A q.n q.c] 31)) := (Below.refl _ _).alloc (Nat.le_refl _) _
  have hS : (w5.alloc (.cells #[.int .i64 q.id, .int .u64 q.stamp, .int .i64 q.kind, .slice q.A q.n q.c] 31)).heap.size = w5.heap.size + 1 := by simp
  generalize (w5.alloc (.cells #[.int .i64 q.id, .int .u64 q.stamp, .int .i64 q.kind, .slice q.A q.n q.c] 31)) = w6 at hP hB hS ⊢
  have B6 := B5.trans (hB.mono B5.size)
  refine (same_reads p q dl w6 (hp5.below hB) (hq.below hB)).mono ?_
  rintro e w7 ⟨rfl, b7⟩
  have B7 := B6.trans (b7.mono B6.size)
  have hP7 := (hP5.keep hB).keep b7
  have hp7 := (hp5.below hB).below b7
  have hb7 := (hb5.below hB).below b7
  clear hP hB hS b7 hP5 hp5 hb5 hq a0 a1 a2 a3 hz
  obtain ⟨a0, a1, a2, a3⟩ := hP7.c4
  by_cases he : dl.err = 0
  · obtain ⟨q1, q2, q3, q4⟩ := HOK.out he
    rw [he]
    clear e0 e1 he
    have HQ := hid q4
    clear q4
    have hs := hp7.ok.s
    have hn : p.n ≤ 1000 := by have := hp7.ok.rb.len; rw [hp7.body] at this; omega
    have Hi := hid hp7.id
    have Hk := hid hp7.kind
    go_wp2_with fail
    have hE := encode_good dl.id dl.kind p.stamp p.A p.n p.c p.l w7 (hT.keep B7) hp7.ok.rb q1 q2 hn hs
    rw [← Hi.out, ← Hk.out, hp7.body, hp7.stamp, HQ.out, ← hp7.stamp] at hE
    refine hE.mono ?_
    rintro e w8 ⟨v, rfl, hown, b8⟩
    obtain ⟨A8, c8, rfl, hr8, hc8, hm8⟩ := own_form hown
    have hb8 := hb7.below b8
    have B8 := B7.trans (b8.mono B7.size)
    go_wp2_with fail
    refine (equal_any A8 A2 1024 c8 n2 c2 b b _ hr8 hb8).mono ?_
    rw [beq_self_eq_true]
    rintro e w9 ⟨rfl, rfl⟩
    go_wp2_with fail
    refine (awake_any _ (hT.keep B8)).mono ?_
    rintro e w9 ⟨rfl, b9⟩
    go_wp2_with fail
    go_ret
    exact ⟨rfl, B8.trans (b9.mono B8.size)⟩
  · have he1 : (dl.err == 0) = false := by rw [beq_eq_false_iff_ne]; exact he
    have he2 : (dl.err != 0) = true := by rw [bne_iff_ne]; exact he
    go_wp2_with fail
    refine (awake_any _ (hT.keep B7)).mono ?_
    rintro e w9 ⟨rfl, b9⟩
    go_wp2_with fail
    go_ret
    exact ⟨rfl, B7.trans (b9.mono B7.size)⟩
end Go.Proofs.YtjaoipdmchofoaaDoor
