/- The walk of PageDetects. Conditions: the table of remainders is laid; the argument reads. -/
import Derived.Test.YtjaoipdmchofoaaDoorDecodes
import Derived.Test.YtjaoipdmchofoaaDoorDetP
set_option linter.unusedSimpArgs false
set_option linter.unusedVariables false
namespace Go.Proofs.YtjaoipdmchofoaaDoor
open Go.RowKit

theorem decoded_enc (id stamp kind : Nat) (l : List UInt8) (h1 : id ≤ 2147483647) (h2 : kind ≤ 255) (h3 : l.length ≤ 1000) (h4 : stamp < 18446744073709551616) : decoded (encoded id stamp kind l) = ⟨id, stamp, kind, l, 0⟩ := by
  have hp := plainPage_len (id := id) (stamp := stamp) (kind := kind) h3
  have hlen : (encoded id stamp kind l).length = 1024 := by unfold encoded; rw [sealed_len, hp]
  have ht : (encoded id stamp kind l).take 1020 = plainPage id stamp kind l := by
    unfold encoded sealed
    rw [List.take_append_of_le_length (by omega), List.take_of_length_le (by omega)]
  have hd : (encoded id stamp kind l).drop 1020 = sumBytes (Crc.crc (plainPage id stamp kind l)) := by
    unfold encoded sealed
    rw [List.drop_append_of_le_length (by omega), List.drop_of_length_le (by omega), List.nil_append]
  unfold decoded
  rw [if_neg (by omega), if_pos (by rw [ht, hd]), ht]
  have e0 : plainPage id stamp kind l = [79, 80, 71, 49] ++ (le 4 id ++ (le 8 stamp ++ ([UInt8.ofNat kind, 0] ++ (le 2 l.length ++ (l ++ List.replicate (1000 - l.length) 0))))) := by
    unfold plainPage; simp only [List.append_assoc]
  have t1 : (plainPage id stamp kind l).take 4 = [79, 80, 71, 49] := by rw [e0]; rfl
  have d4 : (plainPage id stamp kind l).drop 4 = le 4 id ++ (le 8 stamp ++ ([UInt8.ofNat kind, 0] ++ (le 2 l.length ++ (l ++ List.replicate (1000 - l.length) 0)))) := by rw [e0]; rfl
  have d8 : (plainPage id stamp kind l).drop 8 = le 8 stamp ++ ([UInt8.ofNat kind, 0] ++ (le 2 l.length ++ (l ++ List.replicate (1000 - l.length) 0))) := by
    rw [show (8 : Nat) = 4 + 4 from rfl, ← List.drop_drop, d4, List.drop_left' (by simp)]
  have d16 : (plainPage id stamp kind l).drop 16 = [UInt8.ofNat kind, 0] ++ (le 2 l.length ++ (l ++ List.replicate (1000 - l.length) 0)) := by
    rw [show (16 : Nat) = 8 + 8 from rfl, ← List.drop_drop, d8, List.drop_left' (by simp)]
  have d18 : (plainPage id stamp kind l).drop 18 = le 2 l.length ++ (l ++ List.replicate (1000 - l.length) 0) := by
    rw [show (18 : Nat) = 16 + 2 from rfl, ← List.drop_drop, d16]; rfl
  have d20 : (plainPage id stamp kind l).drop 20 = l ++ List.replicate (1000 - l.length) 0 := by
    rw [show (20 : Nat) = 18 + 2 from rfl, ← List.drop_drop, d18, List.drop_left' (by simp)]
  have n2 : num (((plainPage id stamp kind l).drop 18).take 2) = l.length := by
    rw [d18, List.take_left' (by simp), num_le 2 _ (by omega)]
  have n4 : num (((plainPage id stamp kind l).drop 4).take 4) = id := by
    rw [d4, List.take_left' (by simp), num_le 4 _ (by omega)]
  have n8 : num (((plainPage id stamp kind l).drop 8).take 8) = stamp := by
    rw [d8, List.take_left' (by simp), num_le 8 _ (by omega)]
  have k16 : (plainPage id stamp kind l)[16]? = some (UInt8.ofNat kind) := by
    have := List.getElem?_drop (xs := plainPage id stamp kind l) (i := 16) (j := 0)
    rw [d16, List.cons_append, List.getElem?_cons_zero] at this; exact this.symm
  have k17 : (plainPage id stamp kind l)[17]? = some 0 := by
    have := List.getElem?_drop (xs := plainPage id stamp kind l) (i := 16) (j := 1)
    rw [d16, List.cons_append, List.getElem?_cons_succ, List.cons_append, List.getElem?_cons_zero] at this; exact this.symm
  have hk : (UInt8.ofNat kind).toNat = kind := by rw [UInt8.toNat_ofNat']; omega
  have t20 : ((plainPage id stamp kind l).drop 20).take l.length = l := by rw [d20, List.take_left' rfl]
  have hz : ((plainPage id stamp kind l).drop (20 + l.length)).all (· == 0) = true := by
    rw [← List.drop_drop, d20, List.drop_left' rfl, List.all_eq_true]
    intro b hb
    simp [List.eq_of_mem_replicate hb]
  have hpg := page_of (plainPage id stamp kind l) id stamp l.length (UInt8.ofNat kind) hp h3 h1 n2 n4 n8 k16
  rw [hpg, if_pos ⟨t1, k17, hz⟩, t20, hk]

def anyB (x : List UInt8) : Bool := x.any (· != 0)
theorem anyB_next {x : List UInt8} {k : Nat} {u : UInt8} (h : x[k]? = some u) : anyB (x.take (k + 1)) = (anyB (x.take k) || u != 0) := by
  unfold anyB
  rw [List.take_add_one, h, List.any_append]
  simp
theorem anyB_false (x : List UInt8) (h : anyB x = false) : x = Crc.zeros x.length := by
  unfold anyB at h
  unfold Crc.zeros
  rw [List.eq_replicate_iff]
  refine ⟨rfl, fun b hb => ?_⟩
  have := List.any_eq_false.1 h b hb
  simpa using this
theorem anyB_true (x : List UInt8) (h : anyB x = true) : x ≠ Crc.zeros x.length := by
  intro hz
  unfold anyB at h
  obtain ⟨b, hb, hne⟩ := List.any_eq_true.1 h
  rw [hz] at hb
  unfold Crc.zeros at hb
  have := List.eq_of_mem_replicate hb
  simp [this] at hne

set_option maxRecDepth 100000 in
set_option maxHeartbeats 1000000 in
theorem detects_walk (p : Pg) (at_ : Nat) (x0 x1 x2 x3 : UInt8) (w : World) (hT : Tab w) (hp : p.ok w) (hat : at_ < 65536) :
    Calls Tryd.prog 6 #[p.v, .int .u16 at_, .agg #[byV x0, byV x1, byV x2, byV x3]] w fun e w' => e = .returned (.bool true) ∧ Below w.heap.size w w' := by
  obtain ⟨id, stamp, kind, A, n, c, l⟩ := p
  obtain ⟨p, hp1, hp2⟩ : ∃ p : Nat, (at_ : Int).tmod 1021 = p ∧ p < 1021 := ⟨at_ % 1021, rfl, Nat.mod_lt _ (by omega)⟩
  have hpw := hp
  obtain ⟨rb, nc, cm, hs, i0, i1, k0, k1⟩ := hp
  simp only [Pg.v] at *
  by_cases hw : wrong id kind n = 0
  · obtain ⟨i, k, rfl, rfl, h1, h2, h3⟩ := right_of hw
    clear hw
    unfold pageV
    go_enter Tryd.func6, Tryd.ntmps6
    go_wp2_with fail
    generalize hw : World.alloc (World.alloc w _) _ = w1
    obtain ⟨X, hX⟩ : ∃ X, X = [x0, x1, x2, x3] := ⟨_, rfl⟩
    have hX4 : X.length = 4 := by rw [hX]; rfl
    have hP : Blk w1 w.heap.size 25 [.int .i64 i, .int .u64 stamp, .int .i64 k, .slice A n c] := by
      rw [← hw]
      exact (Blk.new w 25 [.int .i64 i, .int .u64 stamp, .int .i64 k, .slice A n c]).keep ((Below.refl _ _).alloc (Nat.le_refl _) _)
    have hY : Blk w1 (w.heap.size + 1) 47 (X.map byV) := by
      rw [← hw, hX]
      have := Blk.new (w.alloc (.cells #[.int .i64 i, .int .u64 stamp, .int .i64 k, .slice A n c] 25)) 47 [byV x0, byV x1, byV x2, byV x3]
      simpa using this
    have hB1 : Below w.heap.size w w1 := by
      rw [← hw]
      exact ((Below.refl _ _).alloc (Nat.le_refl _) _).alloc (by simp) _
    clear hw hX
    refine (encode_good i k stamp A n c l _ (hT.keep hB1) (rb.below hB1) h1 h2 h3 hs).mono ?_
    rintro e w2 ⟨v, rfl, hown2, b2⟩
    obtain ⟨A2, c2, rfl, _, hc2, hm2⟩ := own_form hown2
    obtain ⟨g, rfl, hg, _⟩ := own_set hown2 (k := 0) (by omega)
    obtain ⟨L, hL⟩ : ∃ L, encoded i stamp k l = L := ⟨_, rfl⟩
    rw [hL] at hown2
    have HLe := hid hL
    have hLL : L.length = 1024 := by have := hown2.1; simpa using this
    have HL := hid hLL
    clear hL hLL
    go_wp2_with fail
    go_loopw [9, 10, 30] (fun ch _ i wr => ∃ q : Nat, q ≤ 4 ∧ i = .int .i64 q ∧ ch = .bool (anyB (X.take q)) ∧ wr.ownsRow w1.heap.size 5 1 (.slice (some ⟨g, 0, none⟩) 1024 c2) 1024 ((xorAt L (p) (X.take q)).map byV) ∧ Below w1.heap.size w1 wr) (fun _ _ i _ => 4 - (intOf i).toNat)
    case atStart => exact ⟨0, Nat.zero_le _, rfl, rfl, by rw [List.take_zero, xorAt_nil _ _ (by rw [HL.out]; omega)]; exact hown2, b2⟩
    case round =>
      obtain ⟨q, hq, rfl, rfl, hown, bel⟩ := hrel
      clear hown2 b2
      by_cases hlt : q < 4
      · obtain ⟨u, hu⟩ : ∃ u, X[q]? = some u := ⟨_, List.getElem?_eq_getElem (by omega)⟩
        have cu : ∀ y : Ext wr, y.w.cell? ⟨w.heap.size + 1, q, none⟩ = some (.int .u8 (N8 u)) := fun y => by
          refine Ext.cell ?_ y
          rw [(hY.keep bel).cell, List.getElem?_map, hu]
          rfl
        have cu2 := cu ⟨wr, Below.refl _ _⟩
        have HN := hid (anyB_next hu)
        have HU := hid hu
        clear hu
        obtain ⟨g', eg, _, hgl, hcel, hfr, hset⟩ := own_set hown (k := p + q) (by omega)
        cases eg
        have hxl : (xorAt L (p) (X.take q)).length = 1024 := by rw [xorAt_len _ _ _ (by rw [HL.out]; simp; omega), HL.out]
        obtain ⟨b, hb⟩ : ∃ b, (xorAt L (p) (X.take q))[p + q]? = some b := ⟨_, List.getElem?_eq_getElem (by omega)⟩
        rw [List.getElem?_map, hb] at hcel
        have hcel' : wr.cell? ⟨g, p + q, none⟩ = some (.int .u8 (N8 b)) := hcel
        have HS := hid (hset (byV (b ^^^ u)))
        have HX := hid (xorAt_next L (p) q X (by rw [HL.out, hX4]; omega) u b HU.out hb)
        clear hset hb hcel hxl
        have HB : Hid ((N8 u != 0) = (u != 0)) := N8_bne u 0
        have E1 := hid (IntWalk.i64_in (at_ : Int) (by omega))
        have E2 := hid (IntWalk.i64_in ((p : Int) + q) (by omega))
        have E3 : Hid (((p : Int) + q).toNat = p + q) := by show _ = _; omega
        go_wp2_with fail
        have e1 := E1.out
        have e2 := E2.out
        have e3 := E3.out
        have b0 : (0 : Int) ≤ (p : Int) + q := by omega
        have b1 : (p : Int) + q < 1024 := by omega
        have b2 : (0 : Int) ≤ q := by omega
        have b3 : (q : Int) < 4 := by omega
        go_still_tail 13, (by kernel_rfl)
        clear e1 e2 e3 b0 b1
        have hcel2 : wr.drew.cell? ⟨g, p + q, none⟩ = some (.int .u8 (N8 b)) := hcel'
        have hfr2 : wr.drew.frozen? ⟨g, p + q, none⟩ = false := hfr
        have cu3 : wr.drew.cell? ⟨w.heap.size + 1, q, none⟩ = some (.int .u8 (N8 u)) := cu2
        have ng : ¬ g = w.heap.size + 1 := by have := hY.lt; omega
        go_wp2_with fail
        all_goals
          go_roundw
          case rel =>
            refine ⟨q + 1, by omega, by go_num, ?_, ?_, ?_⟩
            · rw [HN.out]
              first
                | (congr 1; simp [*]; done)
                | (congr 1; simp [*]; exact HB.out)
            · rw [HX.out, List.map_set]
              exact HS.out.1
            · exact (bel.grown HS.out.2 bel.size (fun k hk => by cases hk; exact hg)).drew
          case measure => simp [intOf]; omega
      · obtain rfl : q = 4 := by omega
        obtain ⟨x, hx⟩ : ∃ x, X = x := ⟨_, rfl⟩
        rw [List.take_of_length_le (by omega)] at *
        have hrb : RB wr (some ⟨g, 0, none⟩) 1024 (xorAt L p X) := RL.of_own hown
        have B3 := hB1.trans (bel.mono hB1.size)
        have hP3 := hP.keep bel
        have rb3 := rb.below B3
        clear hown hP hY rb hg
        go_wp2_with fail
        refine (decode_any _ 1024 c2 (xorAt L p X) _ (hT.keep B3) hrb hc2 hm2).mono ?_
        rintro e w4 ⟨y, rfl, hy, b4⟩
        have B4 := B3.trans (b4.mono B3.size)
        have hP4 := hP3.keep b4
        have rb4 := rb3.below b4
        clear hP3 rb3 hrb
        simp only [Pg.v, pageV]
        cases hch : anyB X with
        | false =>
          have hz := anyB_false X hch
          have hdec : decoded (xorAt L p X) = ⟨i, stamp, k, l, 0⟩ := by
            rw [hz, hX4, xorAt_zero _ _ _ (by rw [HL.out]; omega), ← HLe.out]
            exact decoded_enc i stamp k l h1 h2 (by rw [rb4.len]; exact h3) hs
          rw [hdec] at hy ⊢
          clear hdec hz
          clear hch
          obtain ⟨a0, a1, a2, a3⟩ := hP4.c4
          have hlt4 := hP4.lt
          go_wp2_with fail
          have hP : Blk (w4.alloc (.cells #[.int .i64 y.id, .int .u64 y.stamp, .int .i64 y.kind, .slice y.A y.n y.c] 25)) w4.heap.size 25 [.int .i64 y.id, .int .u64 y.stamp, .int .i64 y.kind, .slice y.A y.n y.c] := Blk.new w4 _ _
          have hB : Below w4.heap.size w4 (w4.alloc (.cells #[.int .i64 y.id, .int .u64 y.stamp, .int .i64 y.kind, .slice y.A y.n y.c] 25)) := (Below.refl _ _).alloc (Nat.le_refl _) _
          have hS : (w4.alloc (.cells #[.int .i64 y.id, .int .u64 y.stamp, .int .i64 y.kind, .slice y.A y.n y.c] 25)).heap.size = w4.heap.size + 1 := by simp
          generalize (w4.alloc (.cells #[.int .i64 y.id, .int .u64 y.stamp, .int .i64 y.kind, .slice y.A y.n y.c] 25)) = w5 at hP hB hS ⊢
          have hq5 : Reads w5 ⟨i, stamp, k, A, n, c, l⟩ ⟨i, stamp, k, l, 0⟩ := ⟨(hpw.below B4).below hB, rfl, rfl, rfl, rfl⟩
          refine (same_reads y _ _ w5 (hy.below hB) hq5).mono ?_
          rintro e w6 ⟨rfl, b6⟩
          have B6 := (B4.trans (hB.mono B4.size)).trans (b6.mono (B4.trans (hB.mono B4.size)).size)
          go_wp2_with fail
          refine (awake_any _ (hT.keep B6)).mono ?_
          rintro e w7 ⟨rfl, b7⟩
          go_wp2_with fail
          go_ret
          exact ⟨rfl, B6.trans (b7.mono B6.size)⟩
        | true =>
          have hz := anyB_true X hch
          rw [hX4] at hz
          have hdec : decoded (xorAt L p X) = ⟨0, 0, 0, [], 29⟩ := by
            have hl : (xorAt L p X).length = 1024 := by rw [xorAt_len _ _ _ (by rw [HL.out]; omega), HL.out]
            unfold decoded
            rw [if_neg (by rw [hl]; simp), if_neg]
            rw [← HLe.out]
            unfold encoded
            exact four_bad _ X p (plainPage_len (by rw [rb4.len]; exact h3)) (by omega) hX4 hz
          rw [hdec] at hy ⊢
          clear hdec hz
          clear hch
          go_wp2_with fail
          have hP : Blk (w4.alloc (.cells #[.int .i64 y.id, .int .u64 y.stamp, .int .i64 y.kind, .slice y.A y.n y.c] 25)) w4.heap.size 25 [.int .i64 y.id, .int .u64 y.stamp, .int .i64 y.kind, .slice y.A y.n y.c] := Blk.new w4 _ _
          have hB : Below w4.heap.size w4 (w4.alloc (.cells #[.int .i64 y.id, .int .u64 y.stamp, .int .i64 y.kind, .slice y.A y.n y.c] 25)) := (Below.refl _ _).alloc (Nat.le_refl _) _
          have hS : (w4.alloc (.cells #[.int .i64 y.id, .int .u64 y.stamp, .int .i64 y.kind, .slice y.A y.n y.c] 25)).heap.size = w4.heap.size + 1 := by simp
          generalize (w4.alloc (.cells #[.int .i64 y.id, .int .u64 y.stamp, .int .i64 y.kind, .slice y.A y.n y.c] 25)) = w5 at hP hB hS ⊢
          refine (same_reads y noPg _ w5 (hy.below hB) (noReads _ _)).mono ?_
          rintro e w6 ⟨rfl, b6⟩
          have B6 := (B4.trans (hB.mono B4.size)).trans (b6.mono (B4.trans (hB.mono B4.size)).size)
          go_wp2_with fail
          refine (awake_any _ (hT.keep B6)).mono ?_
          rintro e w7 ⟨rfl, b7⟩
          go_wp2_with fail
          go_ret
          exact ⟨rfl, B6.trans (b7.mono B6.size)⟩
  · have hw2 : (wrong id kind n == 0) = false := by rw [beq_eq_false_iff_ne]; exact hw
    have hw3 : (wrong id kind n != 0) = true := by rw [bne_iff_ne]; exact hw
    unfold pageV
    go_enter Tryd.func6, Tryd.ntmps6
    go_wp2_with fail
    refine (encode_bad id kind stamp A n c _ (by omega) hw).mono ?_
    rintro e w2 ⟨rfl, hb2⟩
    have B2 : Below w.heap.size w w2 := (((Below.refl _ _).alloc (Nat.le_refl _) _).alloc (by simp) _).trans (hb2.mono (by simp; omega))
    clear hw
    go_wp2_with fail
    refine (awake_any _ (hT.keep B2)).mono ?_
    rintro e w' ⟨rfl, hb⟩
    go_wp2_with fail
    go_ret
    exact ⟨rfl, B2.trans (hb.mono B2.size)⟩
end Go.Proofs.YtjaoipdmchofoaaDoor
