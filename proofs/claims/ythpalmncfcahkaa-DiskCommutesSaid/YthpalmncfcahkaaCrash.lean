/- Crash of package disk, walked. Conditions: the disk reads. -/
import Derived.Test.YthpalmncfcahkaaWrites
import Derived.Test.YthpalmncfcahkaaDiskRW
set_option linter.unusedSimpArgs false
set_option linter.unusedVariables false
namespace Go.Proofs.Ythpalmncfcahkaa
open Go.RowKit

def digit (ch j : Nat) : Nat := ch / 3 ^ j % 3
def tear (f : Secs) (x : Nat × List UInt8) (d : Nat) : Secs := if d = 1 then upd f x.1 x.2 else if d = 2 then upd f x.1 (x.2.take 64 ++ (f x.1).drop 64) else f
def crun (ch : Nat) : Nat → Secs → List (Nat × List UInt8) → Secs
  | _, f, [] => f
  | k, f, x :: l => crun ch (k + 1) (tear f x (digit ch (k % 40))) l
def Dk.crash (D : Dk) (ch : Nat) : Dk := ⟨D.n, crun ch 0 D.S D.W.reverse, []⟩
theorem crun_snoc (ch : Nat) (x : Nat × List UInt8) : ∀ (l : List (Nat × List UInt8)) (k : Nat) (f : Secs), crun ch k f (l ++ [x]) = tear (crun ch k f l) x (digit ch ((k + l.length) % 40))
  | [], k, f => rfl
  | y :: l, k, f => by
    simp only [List.cons_append, crun, crun_snoc ch x l]
    congr 2
    simp only [List.length_cons]
    congr 1
    omega
theorem digit_lt (ch j : Nat) : digit ch j < 3 := Nat.mod_lt _ (by omega)
/-- the fates, the first j of them set -/
def fates (ch j : Nat) : List Value := (List.range 40).map fun k => .int .i64 (if k < j then (digit ch k : Int) else 0)
theorem fates_len (ch j : Nat) : (fates ch j).length = 40 := by simp [fates]
theorem fates_at (ch j k : Nat) (hk : k < 40) : (fates ch j)[k]? = some (.int .i64 (if k < j then (digit ch k : Int) else 0)) := by simp [fates, hk]
theorem fates_next (ch j : Nat) (hj : j < 40) : (fates ch j).set j (.int .i64 (digit ch j)) = fates ch (j + 1) := by
  apply List.ext_getElem?
  intro k
  rw [List.getElem?_set, fates_len]
  by_cases hk : k < 40
  · rw [fates_at _ _ _ hk, fates_at _ _ _ hk]
    by_cases hjk : j = k
    · subst hjk
      rw [if_pos rfl, if_pos hk, if_pos (by omega)]
    · rw [if_neg hjk]
      by_cases h1 : k < j
      · rw [if_pos h1, if_pos (by omega)]
      · rw [if_neg h1, if_neg (by omega)]
  · rw [List.getElem?_eq_none (by rw [fates_len]; omega), List.getElem?_eq_none (by rw [fates_len]; omega), if_neg (by omega)]
theorem arrFates : ArrT Try.prog 72 (fates 0 0) := (by kernel_rfl : (Try.prog.info? 72).map (fun i => (i.zero, i.size)) = some (some (.agg (fates 0 0).toArray), 40))
theorem fates_zero (ch : Nat) : fates 0 0 = fates ch 0 := by
  unfold fates
  simp

set_option maxRecDepth 100000 in
set_option maxHeartbeats 2000000 in
theorem crash_any (d : DV) (D : Dk) (ch : Nat) (w : World) (h : DkV w d D) (hm : D.W.length ≤ 1000000) (hch : ch < 18446744073709551616) :
    Calls Try.prog 17 #[d.v, .int .u64 ch] w fun e w' => ∃ d' : DV, e = .returned d'.v ∧ DkV w' d' (D.crash ch) ∧ Below w.heap.size w w' := by
  have HW : Hid (∀ w', Below w.heap.size w w' → Calls Try.prog 28 #[d.v] w' fun e w'' => ∃ A c ps, e = .returned (.slice A D.W.length c) ∧ RL w'' 1 A D.W.length (ps.map ptrV) ∧ D.W.length ≤ c ∧ c ≤ 9223372036854775807 ∧ WrL w'' ps D.W.reverse ∧ Below w'.heap.size w' w'') := fun w' hb => writes_any d D w' (h.keep hb) hm
  unfold DV.v at HW
  rw [show d.v = Value.agg #[.int .i64 d.n, .pointer d.s, .pointer d.c, .pointer d.l, .int .i64 d.m] from rfl]
  go_enter Try.func17, Try.ntmps17
  go_wp2_with ((with_reducible refine is_alloc 72 ?_); refine wp_allocN (w.heap.size + 1 + 1) (by simp) _ arrFates ?_; intro w3 k3 b3 s3; go_frame; obtain ⟨kd, kr, B3⟩ := two_boxes (cs1 := [.int .i64 d.n, .pointer d.s, .pointer d.c, .pointer d.l, .int .i64 d.m]) (cs2 := DV.zero.cs) b3; clear b3 s3)
  rw [fates_zero ch] at k3
  go_loopw [1, 6, 11] (fun c _ j wr => ∃ q : Nat, q ≤ 40 ∧ j = .int .i64 q ∧ c = .int .u64 ((ch / 3 ^ q : Nat) : Int) ∧ Blk wr w.heap.size 25 [.int .i64 d.n, .pointer d.s, .pointer d.c, .pointer d.l, .int .i64 d.m] ∧ Blk wr (w.heap.size + 1) 25 DV.zero.cs ∧ Blk wr (w.heap.size + 1 + 1) 72 (fates ch q) ∧ Below w.heap.size w wr) (fun _ _ j _ => 40 - (intOf j).toNat)
  case atStart => exact ⟨0, by omega, rfl, by simp, kd, kr, k3, B3⟩
  case round =>
    obtain ⟨q, hq, rfl, rfl, kd2, kr2, kf2, hbel⟩ := hrel
    clear kd kr k3 B3
    by_cases hlt : q < 40
    · have hc : ch / 3 ^ q < 18446744073709551616 := Nat.lt_of_le_of_lt (Nat.div_le_self _ _) hch
      have E1 : ch / 3 ^ (q + 1) = ch / 3 ^ q / 3 := by rw [Nat.div_div_eq_div_mul, Nat.pow_succ]
      have hd : digit ch q = ch / 3 ^ q % 3 := rfl
      have HE := hid E1
      have HD := hid hd
      clear E1 hd
      have cf := kf2.cell q
      rw [fates_at _ _ _ hlt] at cf
      have ff := kf2.frozen q
      generalize ch / 3 ^ q = y at *
      go_wp2_with fail
      have ev : Value.int .i64 ((y : Int) % 3) = .int .i64 ((digit ch q : Nat) : Int) := by rw [HD.out]; rfl
      rw [ev]
      have S := hid (kf2.setg q (.int .i64 (digit ch q)))
      go_roundw
      case rel =>
        refine ⟨q + 1, by omega, by go_num, by rw [HE.out]; rfl, kd2.grown S.out (by simp; omega), kr2.grown S.out (by simp), ?_, hbel.grown S.out hbel.size (fun k hk => by cases hk; omega)⟩
        rw [← fates_next ch q hlt]
        exact kf2.set_ q _
      case measure => simp [intOf]; omega
    · obtain rfl : q = 40 := by omega
      obtain ⟨c0, c1, c2, c3, c4⟩ := kd2.c5
      go_wp2_with fail
      refine (HW.out _ hbel).mono ?_
      rintro e w5 ⟨A, c, ps, rfl, hr, hnc, hcm, hwl, b5⟩
      have kd5 := kd2.keep b5
      have kr5 := kr2.keep b5
      have kf5 := kf2.keep b5
      have B5 := hbel.trans (b5.mono hbel.size)
      have h5 := h.keep B5
      have hin : ∀ x ∈ D.W.reverse, x.1 < D.n := fun x hx => h.b x (List.mem_reverse.1 hx)
      have HI := hid hin
      have hn := h.hn
      obtain ⟨L, hL⟩ : ∃ L, D.W.reverse = L := ⟨_, rfl⟩
      have hLn : L.length = D.W.length := by rw [← hL, List.length_reverse]
      rw [hL] at hwl HI
      have HL := hid hL
      clear hL HW kd2 kr2 kf2 hbel b5 h c0 c1 c2 c3 c4 hin
      obtain ⟨n, hn2⟩ : ∃ n, D.W.length = n := ⟨_, rfl⟩
      rw [hn2] at hr hnc hLn hm ⊢
      have HLn := hid hLn
      have HN := hid hn2
      clear hLn hn2
      go_wp2_with fail
      go_loopw [7, 27] (fun now i wr => ∃ (k : Nat) (pp : Option Addr), k ≤ n ∧ i = .int .i64 k ∧ now = .pointer pp ∧ Tree wr pp (crun ch 0 D.S (L.take k)) ∧ Below w5.heap.size w5 wr) (fun _ i _ => n - (intOf i).toNat)
      case atStart => exact ⟨0, d.s, Nat.zero_le _, rfl, rfl, h5.s, Below.refl _ _⟩
      case round =>
        obtain ⟨k, pp, hk, rfl, rfl, ht, hbel⟩ := hrel
        by_cases hlt : k < n
        · obtain ⟨x, hx⟩ : ∃ x, L[k]? = some x := ⟨_, List.getElem?_eq_getElem (by rw [HLn.out]; exact hlt)⟩
          obtain ⟨g, hg, q, gs, kb, ks, hs⟩ := hwl.at hx
          have hxn : x.1 < D.n := HI.out x (List.mem_of_getElem? hx)
          have T1 := hid (show crun ch 0 D.S (L.take (k + 1)) = tear (crun ch 0 D.S (L.take k)) x (digit ch (k % 40)) by
            rw [List.take_add_one, hx, Option.toList_some, crun_snoc, List.length_take, HLn.out, Nat.min_eq_left hk, Nat.zero_add])
          clear hx
          obtain ⟨i, s⟩ := x
          dsimp only at kb ks hs hxn
          obtain ⟨b0, o0, rfl, hb0, hcell⟩ := hr.2 (by omega)
          have cl : wr.cell? ⟨b0, o0 + k, none⟩ = some (.pointer (some ⟨g, 0, none⟩)) := (hbel.cell hb0).trans (hcell k _ (by rw [List.getElem?_map, hg]; rfl))
          have kf6 := kf5.keep hbel
          have cf := kf6.cell (k % 40)
          rw [fates_at _ _ _ (Nat.mod_lt _ (by omega)), if_pos (Nat.mod_lt _ (by omega))] at cf
          have hdl := digit_lt ch (k % 40)
          generalize hdg : digit ch (k % 40) = dg at *
          have kb6 := kb.keep hbel
          have ks6 := Blk.keep ks hbel
          obtain ⟨x0, x1, x2⟩ := kb6.c3
          have HG := hid hg
          clear hcell hg kb ks hdg
          obtain rfl | rfl | rfl : dg = 0 ∨ dg = 1 ∨ dg = 2 := by omega
          · have HT : Hid (crun ch 0 D.S (L.take (k + 1)) = crun ch 0 D.S (L.take k)) := by
              rw [T1.out]; exact rfl
            go_wp2_with fail
            go_roundw
            case rel => exact ⟨k + 1, pp, by omega, by go_num, rfl, by rw [HT.out]; exact ht, hbel⟩
            case measure => simp [intOf]; omega
          · have HT : Hid (crun ch 0 D.S (L.take (k + 1)) = upd (crun ch 0 D.S (L.take k)) i s) := by
              rw [T1.out]; exact rfl
            go_wp2_with fail
            go_still_tail 9, (by kernel_rfl)
            go_wp2_with fail
            have bd : Below wr.heap.size wr wr.drew := (Below.refl _ _).drew
            refine (with_any pp _ i gs s wr.drew (ht.keep bd) (by omega) (Blk.keep ks6 bd) hs).mono ?_
            rintro e w7 ⟨g7, rfl, ht7, b7⟩
            have B7 := hbel.trans ((bd.trans b7).mono hbel.size)
            go_wp2_with fail
            go_roundw
            case rel => exact ⟨k + 1, _, by omega, by go_num, rfl, by rw [HT.out]; exact ht7, B7⟩
            case measure => simp [intOf]; omega
          · have HT : Hid (crun ch 0 D.S (L.take (k + 1)) = upd (crun ch 0 D.S (L.take k)) i (s.take 64 ++ (crun ch 0 D.S (L.take k) i).drop 64)) := by
              rw [T1.out]; exact rfl
            have hfl := ht.len i (by omega)
            go_wp2_with fail
            refine (find_any pp _ i wr ht (by omega)).mono ?_
            rintro e w7 ⟨rfl, b7⟩
            have HFL := hid hfl
            have ht7 := ht.keep b7
            have ks7 := Blk.keep ks6 b7
            have kb7 := kb6.keep b7
            have B7 := hbel.trans (b7.mono hbel.size)
            clear ht b7 hbel ks6 kb6 x0 x1 x2 cf hfl
            generalize hF : crun ch 0 D.S (L.take k) = F at *
            clear hF
            go_wp2_with (first
              | ((with_reducible refine is_alloc 65 ?_); refine wp_allocB _ arrSec ?_; intro w8 k8 b8 s8; go_frame; have ht8 := ht7.keep b8; have ks8 := Blk.keep ks7 b8; have kb8 := kb7.keep b8)
              | ((with_reducible refine is_store 65 ?_); refine wp_storeB _ _ _ _ k8 (arrSecN.trans (by rw [List.length_map, HFL.out])) (by rw [List.length_map, List.length_map, HFL.out, zero128_len]) (byV_one _) rfl rfl ?_; intro w9 k9 r9; go_frame))
            have b9 := b8.grown r9 b8.size (fun k hk => by cases hk; exact Nat.le_refl _)
            have kb9 := kb7.keep b9
            have ks9 := Blk.keep ks7 b9
            clear ht8 ks8 kb8 k8 r9 b8 s8
            obtain ⟨x0, x1, x2⟩ := kb9.c3
            go_still_tail 7, (by kernel_rfl)
            have hs64 : ((s.take 64).map byV).length = 64 := by simp [hs]
            refine wp_copyB w7.heap.size 0 64 128 5 _ _ (show Blk w9.drew _ _ _ from k9) bytesT.1 bytesN (some ⟨gs, 0, none⟩) 64 128 ((s.take 64).map byV) (show RL w9.drew 1 _ _ _ by
              have := BlkB.rb (show BlkB w9.drew gs _ s from ks9) 0 64 (by omega)
              simpa [RB] using this) (byV_one _) rfl rfl (by rw [List.length_map, HFL.out]; omega) (fun w10 k10 r10 => ?_)
            go_frame
            have ec : List.take 0 ((F i).map byV) ++ List.take (min 64 64) ((s.take 64).map byV) ++ List.drop (0 + min 64 64) ((F i).map byV) = (s.take 64 ++ (F i).drop 64).map byV := by
              rw [Nat.min_self, List.take_zero, List.nil_append, Nat.zero_add, List.take_of_length_le (by rw [hs64]; exact Nat.le_refl _), ← List.map_drop, ← List.map_append]
            rw [ec] at k10
            have b10 := b9.drew.grown r10 b9.size (fun k hk => by cases hk; exact Nat.le_refl _)
            have kb10 := kb7.keep b10
            obtain ⟨y0, y1, y2⟩ := kb10.c3
            have ht10 := ht7.keep b10
            clear ec k9 r10 kb9 ks9 x0 x1 x2 b9 hs64
            go_wp2_with fail
            refine (with_any pp F i w7.heap.size (s.take 64 ++ (F i).drop 64) w10 ht10 (by omega) k10 (by simp [hs, HFL.out])).mono ?_
            rintro e w11 ⟨g11, rfl, ht11, b11⟩
            have B11 := (B7.trans (b10.mono B7.size)).trans (b11.mono (B7.trans (b10.mono B7.size)).size)
            go_wp2_with fail
            go_roundw
            case rel => exact ⟨k + 1, _, by omega, by go_num, rfl, by rw [HT.out]; exact ht11, B11⟩
            case measure => simp [intOf]; omega
        · obtain rfl : k = n := by omega
          have kd6 := kd5.keep hbel
          have kr6 := kr5.keep hbel
          have B6 := B5.trans (hbel.mono B5.size)
          obtain ⟨c0, c1, c2, c3, c4⟩ := kd6.c5
          rw [List.take_of_length_le (by rw [HLn.out]; exact Nat.le_refl _)] at ht
          go_wp2_with ((with_reducible refine is_store 25 ?_); refine wp_storeB _ _ _ [.int .i64 d.n, .pointer pp, .pointer pp, .pointer none, .int .i64 0] kr6 diskN rfl (by simp [Value.oneCell']) rfl rfl ?_; intro w9 kr9 r9; go_frame)
          obtain ⟨e0, e1, e2, e3, e4⟩ := kr9.c5
          have K9 := Kept.grown r9 kr6 notDk
          refine bodyPost_ret (v := (⟨d.n, pp, pp, none, 0⟩ : DV).v) (by simp [results, Try.results17, go_sem, e0, e1, e2, e3, e4]; rfl) rfl ⟨_, rfl, ?_, B6.grown r9 B6.size (fun k hk => by cases hk; omega)⟩
          have ht9 := ht.kept K9
          rw [← HL.out] at ht9
          exact ⟨h5.n, h5.hn, ht9, ht9, rfl, rfl, fun x hx => by cases hx⟩
end Go.Proofs.Ythpalmncfcahkaa
