/- Sync and Crash of the reference's disks, walked. Conditions: the disk reads. -/
import Derived.Test.YthpalmncfcahkaaRefAp
import Derived.Test.YthpalmncfcahkaaDiskRW
set_option linter.unusedSimpArgs false
set_option linter.unusedVariables false
namespace Go.Proofs.Ythpalmncfcahkaa
open Go.RowKit

theorem WrR.el {N : Nat → Prop} {w : World} {s : Sl} {W : List (Nat × List UInt8)} (h : WrR N w s W) {k : Nat} (hk : k < s.n) :
    ∃ b off x sl, s.A = some ⟨b, off, none⟩ ∧ b < w.heap.size ∧ W[k]? = some x ∧ SlR N w sl x.2 ∧ w.cell? ⟨b, off + k * 2, none⟩ = some (.int .i64 x.1) ∧ w.cell? ⟨b, off + k * 2 + 1, none⟩ = some sl.v := by
  obtain ⟨hn, hc, hm, ws, hr, hs, hf⟩ := h
  obtain ⟨b, off, y, hA, hb, hy, hcell⟩ := hr.1.el (f := wrCs) wrCs_len hk (by omega)
  have e0 := hcell 0 _ rfl
  have e1 := hcell 1 _ rfl
  rw [Nat.add_zero] at e0
  obtain ⟨z, hz⟩ : ∃ z, W[k]? = some z := ⟨_, List.getElem?_eq_getElem (by rw [← hn]; exact hk)⟩
  have hzy : y.1 = z.1 := by
    have h2 := congrArg (fun l : List Nat => l[k]?) hf
    simp only [List.getElem?_map, hy, hz, Option.map_some, Option.some.injEq] at h2
    exact h2
  exact ⟨b, off, z, y.2, hA, hb, hz, hs.2 k y.2 z.2 (by rw [List.getElem?_map, hy]; rfl) (by rw [List.getElem?_map, hz]; rfl), by rw [← hzy]; exact e0, e1⟩
/-- the sectors after the first writes -/
def apK (f : Secs) (W : List (Nat × List UInt8)) : Secs := W.foldl (fun g x => upd g x.1 x.2) f
theorem apK_snoc (f : Secs) (W : List (Nat × List UInt8)) (x : Nat × List UInt8) : apK f (W ++ [x]) = upd (apK f W) x.1 x.2 := by
  unfold apK
  rw [List.foldl_append]; rfl
theorem cur_apK (D : Dk) : D.cur = apK D.S D.W.reverse := by
  unfold apK Dk.cur
  rw [List.foldl_reverse]
theorem upd_len {f : Secs} {i n : Nat} {s : List UInt8} (h : ∀ j, j < n → (f j).length = 128) (hs : s.length = 128) : ∀ j, j < n → (upd f i s j).length = 128 := by
  intro j hj
  unfold upd
  split
  · exact hs
  · exact h j hj
theorem apK_len (f : Secs) (n : Nat) (h : ∀ j, j < n → (f j).length = 128) : ∀ W : List (Nat × List UInt8), (∀ x ∈ W, x.2.length = 128) → ∀ j, j < n → (apK f W j).length = 128 := by
  intro W
  unfold apK
  induction W generalizing f with
  | nil => intro _ j hj; exact h j hj
  | cons x l ih => intro hW; exact ih _ (upd_len h (hW x (List.mem_cons_self ..))) (fun y hy => hW y (List.mem_cons_of_mem _ hy))

set_option maxRecDepth 100000 in
set_option maxHeartbeats 1000000 in
theorem refSync_any (N : Nat → Prop) (x : Rv) (D : Dk) (w : World) (hN : ∀ b, w.heap.size ≤ b → N b) (h : RefV N w x D) (hn : D.n ≤ 100000) :
    Calls Try.prog 30 #[x.v] w fun e w' => ∃ x' : Rv, e = .returned x'.v ∧ RefV N w' x' D.sync ∧ Below w.heap.size w w' := by
  have HC := hid (cur_apK D)
  obtain ⟨hS, hW, hl, hb⟩ := h
  have hLb : ∀ y ∈ D.W.reverse, y.1 < D.n ∧ y.2.length = 128 := fun y hy => hb y (List.mem_reverse.1 hy)
  show Calls _ _ _ _ fun e w' => ∃ x' : Rv, e = .returned x'.v ∧ RefV N w' x' ⟨D.n, D.cur, []⟩ ∧ Below w.heap.size w w'
  rw [HC.out]
  generalize D.W.reverse = L at *
  generalize D.S = f at *
  generalize D.n = n at *
  obtain ⟨N1, hN1⟩ : ∃ N1 : Nat → Prop, N1 = fun b => N b ∧ (b < w.heap.size ∨ w.heap.size + 2 ≤ b) := ⟨_, rfl⟩
  have hN0 : ∀ b, w.heap.size + 2 ≤ b → N1 b := fun b hb => by rw [hN1]; exact ⟨hN b (by omega), .inr hb⟩
  have HNN := hid (show (∀ b, N1 b → N b) ∧ ¬ N1 (w.heap.size + 1) by rw [hN1]; exact ⟨fun b hb => hb.1, fun hb => by omega⟩)
  have hS1 := hS.lt.mono (N' := N1) (fun b hb => by rw [hN1]; exact ⟨hb.1, .inl hb.2⟩)
  have HW := hid (hW.lt.mono (N' := N1) (fun b hb => by rw [hN1]; exact ⟨hb.1, .inl hb.2⟩))
  clear hN1
  have HL := hid hl
  have HB := hid hLb
  have hWn := hW.e
  have hSn := hS.e
  have hSc := hS.nc
  have hSm := hS.cm
  have hWc := hW.nc
  have hWm := hW.cm
  have HWn := hid hWn
  obtain ⟨⟨SA, Sn, Sc⟩, ⟨WA, Wn, Wc⟩⟩ := x
  dsimp only at *
  subst hSn
  clear hl hb hLb hW HC hWn
  simp only [Rv.v, Sl.v]
  go_enter Try.func30, Try.ntmps30
  go_wp2_with fail
  generalize hw1 : World.alloc (World.alloc w _) _ = w1
  obtain ⟨kd, kr, hBl⟩ := two_boxes_r (cs1 := [.slice SA Sn Sc, .slice WA Wn Wc]) (cs2 := Rv.zero.cs) hw1
  clear hw1
  go_loopw [3, 4] (fun o j wr => ∃ (k : Nat) (s : Sl), k ≤ Wn ∧ j = .int .i64 k ∧ o = .slice s.A s.n s.c ∧ SecR N1 wr s Sn (apK f (L.take k)) ∧ Blk wr w.heap.size 48 [.slice SA Sn Sc, .slice WA Wn Wc] ∧ Blk wr (w.heap.size + 1) 48 Rv.zero.cs ∧ Below w.heap.size w wr) (fun _ j _ => Wn - (intOf j).toNat)
  case atStart => exact ⟨0, ⟨SA, Sn, Sc⟩, Nat.zero_le _, rfl, rfl, hS1.keep hBl, kd, kr, hBl⟩
  case round =>
    obtain ⟨k, s, hk, rfl, rfl, hs, kd2, kr2, hbel⟩ := hrel
    clear kd kr hBl
    obtain ⟨x0, x1⟩ := kd2.c2
    by_cases hlt : k < Wn
    · obtain ⟨b, off, z, sl, hA, hbb, hz, hsl, e0, e1⟩ := (HW.out.keep hbel).el hlt
      dsimp only at hA
      subst hA
      have hz1 := HB.out z (List.mem_of_getElem? hz)
      have T1 := hid (show apK f (L.take (k + 1)) = upd (apK f (L.take k)) z.1 z.2 by rw [List.take_add_one, hz, Option.toList_some, apK_snoc])
      have HLK := hid (apK_len f Sn HL.out (L.take k) (fun y hy => (HB.out y (List.mem_of_mem_take hy)).2))
      have hz2 := hz1.1
      have HZ := hid hz1.2
      obtain ⟨zi, zb⟩ := z
      dsimp only at *
      clear hz hz1
      simp only [Sl.v] at e1
      have hg := kr2.lt
      have C := refApply_any N1 s sl Sn zi 128 (apK f (L.take k)) zb wr (fun b hb => hN0 b (by omega)) hs HLK.out hz2 hn hsl HZ.out (by omega)
      have E1 : zb.take 128 ++ (apK f (L.take k) zi).drop 128 = zb := by
        rw [List.take_of_length_le (by rw [HZ.out]; omega), List.drop_of_length_le (by rw [HLK.out zi hz2]; omega), List.append_nil]
      rw [E1, ← T1.out] at C
      simp only [Sl.v] at C
      clear E1
      go_wp2_with fail
      refine C.mono ?_
      rintro e w3 ⟨s3, rfl, hs3, b3⟩
      have kd3 := kd2.keep b3
      have kr3 := kr2.keep b3
      have B3 := hbel.trans (b3.mono hbel.size)
      go_wp2_with fail
      go_roundw
      case rel => exact ⟨k + 1, s3, by omega, by go_num, rfl, hs3, kd3, kr3, B3⟩
      case measure => simp [intOf]; omega
    · obtain rfl : k = Wn := by omega
      rw [List.take_of_length_le (by rw [← HWn.out]; exact Nat.le_refl _)] at hs
      go_wp2_with ((with_reducible refine is_store 48 ?_); refine wp_storeB (w.heap.size + 1) _ _ (⟨s, ⟨none, 0, 0⟩⟩ : Rv).cs kr2 refN rfl (rv_one _) rfl rfl ?_; intro w6 kn rn; go_frame)
      obtain ⟨e0, e1⟩ := kn.c2
      have hs' : SecR N w6 s Sn (apK f L) := by
        exact (hs.grown rn (fun g hg hq => by cases hg; exact HNN.out.2 hq)).mono HNN.out.1
      refine bodyPost_ret (v := (⟨s, ⟨none, 0, 0⟩⟩ : Rv).v) (by simp [results, Try.results30, go_sem, e0, e1]; rfl) rfl ⟨⟨s, ⟨none, 0, 0⟩⟩, rfl, ⟨hs', WrR.nil _ _, apK_len f Sn HL.out L (fun y hy => (HB.out y hy).2), fun y hy => by cases hy⟩, hbel.grown rn hbel.size (fun g hg => by cases hg; omega)⟩

theorem intT : OneC Try.prog 96 3 (.int .i64 0) 8 :=
  ⟨Try.underlying96, info_parts (by kernel_rfl : (Try.prog.info? 3).map (fun i => (i.zero, i.size, i.bytes)) = some (some (.int .i64 0), 1, 8)), rfl⟩
def digs (ch q : Nat) : List Value := (List.range q).map fun k => .int .i64 (digit ch k)
theorem digs_next (ch q : Nat) : digs ch q ++ [.int .i64 (digit ch q)] = digs ch (q + 1) := by
  unfold digs
  rw [List.range_succ, List.map_append]; rfl
theorem digs_at (ch q k : Nat) (h : k < q) : (digs ch q)[k]? = some (.int .i64 (digit ch k)) := by
  unfold digs
  rw [List.getElem?_map, List.getElem?_range h]; rfl
theorem tear_len {f : Secs} {n d : Nat} {x : Nat × List UInt8} (h : ∀ j, j < n → (f j).length = 128) (hx : x.1 < n) (hs : x.2.length = 128) : ∀ j, j < n → (tear f x d j).length = 128 := by
  unfold tear
  split
  · exact upd_len h hs
  · split
    · exact upd_len h (by have := h x.1 hx; simp [hs, this])
    · exact h
theorem crun_len (ch n : Nat) : ∀ (W : List (Nat × List UInt8)) (k : Nat) (f : Secs), (∀ j, j < n → (f j).length = 128) → (∀ x ∈ W, x.1 < n ∧ x.2.length = 128) → ∀ j, j < n → (crun ch k f W j).length = 128
  | [], _, _, h, _ => h
  | x :: l, k, f, h, hW => by
    unfold crun
    have hx := hW x (List.mem_cons_self ..)
    exact crun_len ch n l _ _ (tear_len h hx.1 hx.2) (fun y hy => hW y (List.mem_cons_of_mem _ hy))

set_option maxRecDepth 100000 in
set_option maxHeartbeats 2000000 in
theorem refCrash_any (N : Nat → Prop) (x : Rv) (D : Dk) (ch : Nat) (w : World) (hN : ∀ b, w.heap.size ≤ b → N b) (h : RefV N w x D) (hn : D.n ≤ 100000) (hch : ch < 18446744073709551616) :
    Calls Try.prog 31 #[x.v, .int .u64 ch] w fun e w' => ∃ x' : Rv, e = .returned x'.v ∧ RefV N w' x' (D.crash ch) ∧ Below w.heap.size w w' := by
  obtain ⟨hS, hW, hl, hb⟩ := h
  have hLb : ∀ y ∈ D.W.reverse, y.1 < D.n ∧ y.2.length = 128 := fun y hy => hb y (List.mem_reverse.1 hy)
  show Calls _ _ _ _ fun e w' => ∃ x' : Rv, e = .returned x'.v ∧ RefV N w' x' ⟨D.n, crun ch 0 D.S D.W.reverse, []⟩ ∧ Below w.heap.size w w'
  generalize D.W.reverse = L at *
  generalize D.S = f at *
  generalize D.n = n at *
  obtain ⟨N1, hN1⟩ : ∃ N1 : Nat → Prop, N1 = fun b => N b ∧ (b < w.heap.size ∨ w.heap.size + 2 ≤ b) := ⟨_, rfl⟩
  have hN0 : ∀ b, w.heap.size + 2 ≤ b → N1 b := fun b hb => by rw [hN1]; exact ⟨hN b (by omega), .inr hb⟩
  have HNN := hid (show (∀ b, N1 b → N b) ∧ ¬ N1 (w.heap.size + 1) by rw [hN1]; exact ⟨fun b hb => hb.1, fun hb => by omega⟩)
  have hS1 := hS.lt.mono (N' := N1) (fun b hb => by rw [hN1]; exact ⟨hb.1, .inl hb.2⟩)
  have HW := hid (hW.lt.mono (N' := N1) (fun b hb => by rw [hN1]; exact ⟨hb.1, .inl hb.2⟩))
  clear hN1
  have HL := hid hl
  have HB := hid hLb
  have hWn := hW.e
  have hSn := hS.e
  have hSc := hS.nc
  have hSm := hS.cm
  have hWc := hW.nc
  have hWm := hW.cm
  have HWn := hid hWn
  obtain ⟨⟨SA, Sn, Sc⟩, ⟨WA, Wn, Wc⟩⟩ := x
  dsimp only at *
  subst hSn
  clear hl hb hLb hW hWn
  simp only [Rv.v, Sl.v]
  go_enter Try.func31, Try.ntmps31
  go_wp2_with fail
  generalize hw1 : World.alloc (World.alloc w _) _ = w1
  obtain ⟨kd, kr, hBl⟩ := two_boxes_r (cs1 := [.slice SA Sn Sc, .slice WA Wn Wc]) (cs2 := Rv.zero.cs) hw1
  clear hw1
  go_loopw [1, 5, 6] (fun c v j wr => ∃ (q : Nat) (A : Option Addr) (cp : Nat), q ≤ 40 ∧ j = .int .i64 q ∧ c = .int .u64 ((ch / 3 ^ q : Nat) : Int) ∧ v = .slice A q cp ∧ wr.ownsRow (w.heap.size + 2) 3 1 (.slice A q cp) q (digs ch q) ∧ Blk wr w.heap.size 48 [.slice SA Sn Sc, .slice WA Wn Wc] ∧ Blk wr (w.heap.size + 1) 48 Rv.zero.cs ∧ Below w.heap.size w wr) (fun _ _ j _ => 40 - (intOf j).toNat)
  case atStart => exact ⟨0, none, 0, by omega, rfl, by simp, rfl, World.ownsRow_nil _ _ _ _, kd, kr, hBl⟩
  case round =>
    obtain ⟨q, A, cp, hq, rfl, rfl, rfl, hown, kd2, kr2, hbel⟩ := hrel
    clear kd kr hBl
    by_cases hlt : q < 40
    · have hc : ch / 3 ^ q < 18446744073709551616 := Nat.lt_of_le_of_lt (Nat.div_le_self _ _) hch
      have HE := hid (show ch / 3 ^ (q + 1) = ch / 3 ^ q / 3 by rw [Nat.div_div_eq_div_mul, Nat.pow_succ])
      have HD := hid (show digit ch q = ch / 3 ^ q % 3 from rfl)
      generalize ch / 3 ^ q = y at *
      have hg := kr2.lt
      go_wp2_with (at_builtin; refine wp_app _ rfl _ _ 96 rfl (w.heap.size + 2) 3 _ 8 intT _ _ _ (hown.alloc _) rfl _ 1 1 _ (RL.new wr _ _ _ 1 1 rfl) rfl (one_only rfl) (by unfold maxLen; omega) (by omega) (by simp; omega) ?_; intro v3 w3 hown3 r3 a3; go_frame)
      obtain ⟨A3, c3, rfl, _, _, _⟩ := own_form hown3
      have HO := hid (fun g hg => (hown.lt g hg).1)
      have ba : Below wr.heap.size wr (wr.alloc (.cells #[.int .i64 ((y : Int) % 3)] 3)) := (Below.refl _ _).alloc (Nat.le_refl _) _
      have kd3 := (kd2.keep ba).grown r3 (fun hq => absurd (HO.out _ hq) (by omega))
      have kr3 := (kr2.keep ba).grown r3 (fun hq => absurd (HO.out _ hq) (by omega))
      have B3 := (hbel.trans (ba.mono hbel.size)).grown r3 (by have := hbel.size; simp; omega) (fun g hg => by have := HO.out g hg; omega)
      have own4 : w3.ownsRow (w.heap.size + 2) 3 1 (.slice A3 (q + 1) c3) (q + 1) (digs ch (q + 1)) := by
        rw [← digs_next, HD.out]
        exact hown3
      clear hown3 r3 a3 kd2 kr2 hown
      go_roundw
      case rel => exact ⟨q + 1, A3, c3, by omega, by go_num, by rw [HE.out]; rfl, rfl, own4, kd3, kr3, B3⟩
      case measure => simp [intOf]; omega
    · obtain rfl : q = 40 := by omega
      obtain ⟨x0, x1⟩ := kd2.c2
      rw [show ((40 : Nat) : Int) = 40 from rfl]
      generalize ch / 3 ^ 40 = yy
      have hDg := RL.of_own hown
      obtain ⟨_, _, hav, _, hcp1, hcp2⟩ := own_form hown
      cases hav
      obtain ⟨bA, oA, rfl, hbA, hcA⟩ := hDg.2 (by omega)
      have HD := hid hcA
      clear hown hcA hDg
      obtain ⟨wb, rfl⟩ : ∃ wo : World, wo = wr := ⟨_, rfl⟩
      have hSb := hS1.keep hbel
      have HWb := hid (HW.out.keep hbel)
      clear hS hS1 HW
      go_wp2_with fail
      go_loopw [7, 8] (fun o j wr => ∃ (k : Nat) (s : Sl), k ≤ Wn ∧ j = .int .i64 k ∧ o = .slice s.A s.n s.c ∧ SecR N1 wr s Sn (crun ch 0 f (L.take k)) ∧ Below wb.heap.size wb wr) (fun _ j _ => Wn - (intOf j).toNat)
      case atStart => exact ⟨0, ⟨SA, Sn, Sc⟩, Nat.zero_le _, rfl, rfl, hSb, Below.refl _ _⟩
      case round =>
        obtain ⟨k, s, hk, rfl, rfl, hs, hb2⟩ := hrel
        have kd3 := kd2.keep hb2
        have kr3 := kr2.keep hb2
        have B2 := hbel.trans (hb2.mono hbel.size)
        clear x0 x1 hSb
        obtain ⟨x0, x1⟩ := kd3.c2
        have hg3 := kr3.lt
        by_cases hlt : k < Wn
        · obtain ⟨b, off, z, sl, hA, hbb, hz, hsl, e0, e1⟩ := (HWb.out.keep hb2).el hlt
          dsimp only at hA
          subst hA
          have hz1 := HB.out z (List.mem_of_getElem? hz)
          have T1 := hid (show crun ch 0 f (L.take (k + 1)) = tear (crun ch 0 f (L.take k)) z (digit ch (k % 40)) by
            rw [List.take_add_one, hz, Option.toList_some, crun_snoc, List.length_take, ← HWn.out, Nat.min_eq_left hk, Nat.zero_add])
          have HLK := hid (crun_len ch Sn (L.take k) 0 f HL.out (fun y hy => HB.out y (List.mem_of_mem_take hy)))
          have hz2 := hz1.1
          have HZ := hid hz1.2
          obtain ⟨zi, zb⟩ := z
          dsimp only at *
          clear hz hz1
          simp only [Sl.v] at e1
          have cd : wr.cell? ⟨bA, oA + k % 40, none⟩ = some (.int .i64 (digit ch (k % 40))) := (hb2.cell hbA).trans (HD.out (k % 40) _ (digs_at ch 40 (k % 40) (Nat.mod_lt _ (by omega))))
          have hdl := digit_lt ch (k % 40)
          generalize digit ch (k % 40) = dg at *
          obtain rfl | rfl | rfl : dg = 0 ∨ dg = 1 ∨ dg = 2 := by omega
          · have T2 : Hid (crun ch 0 f (L.take (k + 1)) = crun ch 0 f (L.take k)) := by rw [T1.out]; exact rfl
            go_wp2_with fail
            go_roundw
            case rel => exact ⟨k + 1, s, by omega, by go_num, rfl, by rw [T2.out]; exact hs, hb2⟩
            case measure => simp [intOf]; omega
          · have C := refApply_any N1 s sl Sn zi 128 (crun ch 0 f (L.take k)) zb wr (fun b hb => hN0 b (by omega)) hs HLK.out hz2 hn hsl HZ.out (by omega)
            have E1 : zb.take 128 ++ (crun ch 0 f (L.take k) zi).drop 128 = zb := by
              rw [List.take_of_length_le (by rw [HZ.out]; omega), List.drop_of_length_le (by rw [HLK.out zi hz2]; omega), List.append_nil]
            have T2 : Hid (crun ch 0 f (L.take (k + 1)) = upd (crun ch 0 f (L.take k)) zi zb) := by rw [T1.out]; exact rfl
            rw [E1, ← T2.out] at C
            simp only [Sl.v] at C
            clear E1
            go_wp2_with fail
            refine C.mono ?_
            rintro e w3 ⟨s3, rfl, hs3, b3⟩
            have B3 := hb2.trans (b3.mono hb2.size)
            have cd3 := (b3.cell (World.block_lt_of_cell? wr _ cd)).trans cd
            obtain ⟨y0, y1⟩ := (kd3.keep b3).c2
            go_wp2_with fail
            go_roundw
            case rel => exact ⟨k + 1, s3, by omega, by go_num, rfl, hs3, B3⟩
            case measure => simp [intOf]; omega
          · have C := refApply_any N1 s sl Sn zi 64 (crun ch 0 f (L.take k)) zb wr (fun b hb => hN0 b (by omega)) hs HLK.out hz2 hn hsl HZ.out (by omega)
            have T2 : Hid (crun ch 0 f (L.take (k + 1)) = upd (crun ch 0 f (L.take k)) zi (zb.take 64 ++ (crun ch 0 f (L.take k) zi).drop 64)) := by rw [T1.out]; exact rfl
            rw [← T2.out] at C
            simp only [Sl.v] at C
            go_wp2_with fail
            refine C.mono ?_
            rintro e w3 ⟨s3, rfl, hs3, b3⟩
            have B3 := hb2.trans (b3.mono hb2.size)
            go_wp2_with fail
            go_roundw
            case rel => exact ⟨k + 1, s3, by omega, by go_num, rfl, hs3, B3⟩
            case measure => simp [intOf]; omega
        · obtain rfl : k = Wn := by omega
          rw [List.take_of_length_le (by rw [← HWn.out]; exact Nat.le_refl _)] at hs
          go_wp2_with ((with_reducible refine is_store 48 ?_); refine wp_storeB (w.heap.size + 1) _ _ (⟨s, ⟨none, 0, 0⟩⟩ : Rv).cs kr3 refN rfl (rv_one _) rfl rfl ?_; intro w6 kn rn; go_frame)
          obtain ⟨e0, e1⟩ := kn.c2
          have hs' : SecR N w6 s Sn (crun ch 0 f L) := (hs.grown rn (fun g hg hq => by cases hg; exact HNN.out.2 hq)).mono HNN.out.1
          refine bodyPost_ret (v := (⟨s, ⟨none, 0, 0⟩⟩ : Rv).v) (by simp [results, Try.results31, go_sem, e0, e1]; rfl) rfl ⟨⟨s, ⟨none, 0, 0⟩⟩, rfl, ⟨hs', WrR.nil _ _, crun_len ch Sn L 0 f HL.out HB.out, fun y hy => by cases hy⟩, B2.grown rn B2.size (fun g hg => by cases hg; omega)⟩
end Go.Proofs.Ythpalmncfcahkaa
