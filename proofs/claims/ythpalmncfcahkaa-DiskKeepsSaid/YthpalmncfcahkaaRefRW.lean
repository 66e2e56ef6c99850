/- Read and Put of the reference's disks, walked. Conditions: the disk reads. -/
import Derived.Test.YthpalmncfcahkaaRefD
set_option linter.unusedSimpArgs false
set_option linter.unusedVariables false
namespace Go.Proofs.Ythpalmncfcahkaa
open Go.RowKit

/-- what a sector holds after the first writes -/
def rdK (f : Secs) (i : Nat) (W : List (Nat × List UInt8)) : List UInt8 := W.foldl (fun o x => if x.1 = i then x.2 else o) (f i)
theorem rdK_snoc (f : Secs) (i : Nat) (W : List (Nat × List UInt8)) (x : Nat × List UInt8) : rdK f i (W ++ [x]) = if x.1 = i then x.2 else rdK f i W := by
  unfold rdK
  rw [List.foldl_append]; rfl
theorem cur_rdK (D : Dk) (i : Nat) : D.cur i = rdK D.S i D.W.reverse := by
  unfold rdK Dk.cur
  rw [List.foldl_reverse]
  induction D.W with
  | nil => rfl
  | cons x l ih =>
    simp only [List.foldr_cons]
    show upd _ x.1 x.2 i = _
    unfold upd
    by_cases h : i = x.1
    · rw [if_pos h, if_pos h.symm]
    · rw [if_neg h, if_neg (fun e => h e.symm)]; exact ih
theorem wrCs_len (x : Nat × Sl) : (wrCs x).length = 2 := rfl
theorem wr_one (ws : List (Nat × Sl)) : ∀ u ∈ ws.flatMap wrCs, u.oneCell' = true := by
  intro u hu
  obtain ⟨x, _, hx⟩ := List.mem_flatMap.1 hu
  simp only [wrCs, List.mem_cons, List.not_mem_nil, or_false] at hx
  rcases hx with rfl | rfl <;> rfl

set_option maxRecDepth 100000 in
set_option maxHeartbeats 1000000 in
theorem refRead_any (N : Nat → Prop) (x : Rv) (D : Dk) (i : Nat) (w : World) (h : RefV N w x D) (hi : i < D.n) :
    Calls Try.prog 29 #[x.v, .int .i64 i] w fun e w' => ∃ s : Sl, e = .returned s.v ∧ SlR N w' s (D.cur i) ∧ Below w.heap.size w w' := by
  have hC := hid (cur_rdK D i)
  obtain ⟨⟨hSn, hSc, hSm, ss, hSr, hSs⟩, ⟨hWn, hWc, hWm, ws, hWr, hWs, hWf⟩, hl, hb⟩ := h
  obtain ⟨S, W⟩ := x
  dsimp only at *
  have hn : D.n = S.n := hSn.symm
  obtain ⟨s0, hs0, hr0⟩ := hSs.at (i := i) (l := D.S i) (by simp [hi])
  generalize hL : D.W.reverse = L at *
  have HC := hid (hC.out.trans (by rfl))
  have HF := hid hWf
  have HL := hid hWn
  clear hL hC hWf hl hb
  unfold Rv.v
  go_enter Try.func29, Try.ntmps29
  obtain ⟨b0, o0, hA0, hb0, hc0⟩ := hSr.1.2 (by omega)
  have c0 := hc0 i s0.v (by rw [List.getElem?_map, hs0]; rfl)
  obtain ⟨SA, Sn, Sc⟩ := S
  dsimp only at *
  subst hA0
  have hiS : i < Sn := by omega
  obtain ⟨WA, Wn, Wc⟩ := W
  obtain ⟨A0, n0, cc0⟩ := s0
  simp only [Sl.v] at *
  clear hn hSn hWn hSr hc0 hs0 hSs
  go_wp2_with fail
  have hP : Blk (w.alloc (.cells #[.slice (some ⟨b0, o0, none⟩) Sn Sc, .slice WA Wn Wc] 48)) w.heap.size 48 [.slice (some ⟨b0, o0, none⟩) Sn Sc, .slice WA Wn Wc] := Blk.new w _ _
  have hB : Below w.heap.size w (w.alloc (.cells #[.slice (some ⟨b0, o0, none⟩) Sn Sc, .slice WA Wn Wc] 48)) := (Below.refl _ _).alloc (Nat.le_refl _) _
  have hS : (w.alloc (.cells #[.slice (some ⟨b0, o0, none⟩) Sn Sc, .slice WA Wn Wc] 48)).heap.size = w.heap.size + 1 := by simp
  generalize (w.alloc (.cells #[.slice (some ⟨b0, o0, none⟩) Sn Sc, .slice WA Wn Wc] 48)) = w1 at hP hB hS ⊢
  obtain ⟨x0, x1⟩ := hP.c2
  have hr1 := hr0.keep hB
  have hWr1 := hWr.keep hB
  have hWs1 := hWs.keep hB
  clear hr0 hWr hWs c0 hS hb0
  go_loop [5, 6] (fun o j => ∃ (k : Nat) (s : Sl), k ≤ Wn ∧ j = .int .i64 k ∧ o = .slice s.A s.n s.c ∧ SlR N w1 s (rdK D.S i (L.take k))) (fun _ j => Wn - (intOf j).toNat)
  case atStart => exact ⟨0, ⟨A0, n0, cc0⟩, Nat.zero_le _, rfl, rfl, hr1⟩
  case round =>
    obtain ⟨k, s, hk, rfl, rfl, hs⟩ := hrel
    by_cases hlt : k < Wn
    · obtain ⟨b, off, y, rfl, hbb, hy, hcell⟩ := hWr1.1.el (f := wrCs) wrCs_len hlt (by omega)
      have e0 := hcell 0 _ rfl
      have e1 := hcell 1 _ rfl
      rw [Nat.add_zero] at e0
      clear hcell
      obtain ⟨z, hz⟩ : ∃ z, L[k]? = some z := ⟨_, List.getElem?_eq_getElem (by rw [← HL.out]; exact hlt)⟩
      have hzy : y.1 = z.1 := by
        have h2 := congrArg (fun l : List Nat => l[k]?) HF.out
        simp only [List.getElem?_map, hy, hz, Option.map_some, Option.some.injEq] at h2
        exact h2
      have hrz := hWs1.2 k y.2 z.2 (by rw [List.getElem?_map, hy]; rfl) (by rw [List.getElem?_map, hz]; rfl)
      have T1 := hid (show rdK D.S i (L.take (k + 1)) = if z.1 = i then z.2 else rdK D.S i (L.take k) by rw [List.take_add_one, hz, Option.toList_some, rdK_snoc])
      clear hy hz
      obtain ⟨yi, yA, yn, yc⟩ := y
      dsimp only at hzy hrz e0 e1
      simp only [Sl.v] at e1
      subst hzy
      by_cases hq : z.1 = i
      · have t1 : (((z.1 : Nat) : Int) == (i : Int)) = true := by rw [beq_iff_eq, hq]
        have T2 : Hid (rdK D.S i (L.take (k + 1)) = z.2) := by rw [T1.out, if_pos hq]; exact rfl
        clear hq
        go_wp2_with fail
        go_round
        case rel => exact ⟨k + 1, ⟨yA, yn, yc⟩, by omega, by go_num, rfl, by rw [T2.out]; exact hrz⟩
        case measure => simp [intOf]; omega
      · have t1 : (((z.1 : Nat) : Int) == (i : Int)) = false := by rw [beq_eq_false_iff_ne]; omega
        have T2 : Hid (rdK D.S i (L.take (k + 1)) = rdK D.S i (L.take k)) := by rw [T1.out, if_neg hq]; exact rfl
        clear hq
        go_wp2_with fail
        go_round
        case rel => exact ⟨k + 1, s, by omega, by go_num, rfl, by rw [T2.out]; exact hs⟩
        case measure => simp [intOf]; omega
    · obtain rfl : k = Wn := by omega
      go_wp2_with fail
      go_ret
      refine ⟨s, rfl, ?_, hB⟩
      rw [HC.out]
      rwa [List.take_of_length_le (by rw [← HL.out]; exact Nat.le_refl _)] at hs

theorem set2 {w : World} {g : Nat} {t : TypeId} {cs : List Value} (h : Blk w g t cs) (hl : cs.length = 2) (a b : Value) :
    Blk ((w.setCell ⟨g, 0, none⟩ a).setCell ⟨g, 1, none⟩ b) g t [a, b] ∧ w.grownBy ((w.setCell ⟨g, 0, none⟩ a).setCell ⟨g, 1, none⟩ b) (some g) := by
  match cs, hl with
  | [x0, x1], _ =>
    have h0 := h.set_ 0 a
    have h1 := h0.set_ 1 b
    exact ⟨h1, (h.setg 0 a).trans (h0.setg 1 b)⟩
theorem wrT2 : ElT Try.prog 46 61 (.agg #[.int .i64 0, .slice none 0 0]) 2 32 :=
  ⟨Try.underlying46, info_parts (by kernel_rfl : (Try.prog.info? 61).map (fun i => (i.zero, i.size, i.bytes)) = some (some (.agg #[.int .i64 0, .slice none 0 0]), 2, 32)), rfl, by omega⟩

set_option maxRecDepth 100000 in
set_option maxHeartbeats 1000000 in
theorem refPut_any (N : Nat → Prop) (x : Rv) (D : Dk) (i : Nat) (s : Sl) (l : List UInt8) (w : World) (hN : ∀ b, w.heap.size ≤ b → N b) (h : RefV N w x D) (hs : RB w s.A s.n l) (hl : l.length = 128) (hi : i < D.n) (hm : D.W.length ≤ 1000000) :
    Calls Try.prog 32 #[x.v, .int .i64 i, s.v] w fun e w' => ∃ x' : Rv, e = .returned x'.v ∧ RefV N w' x' (D.write i l) ∧ Below w.heap.size w w' := by
  have hsn : s.n = 128 := by rw [← hs.len, hl]
  obtain ⟨hS, ⟨hWn, hWc, hWm, ws, hWr, hWs, hWf⟩, hll, hbb⟩ := h
  obtain ⟨S, W⟩ := x
  dsimp only at *
  have hmW : W.n ≤ 1000000 := by rw [hWn, List.length_reverse]; exact hm
  have HWn := hid hWn
  have HF := hid hWf
  have HL := hid hl
  obtain ⟨SA, Sn, Sc⟩ := S
  obtain ⟨WA, Wn, Wc⟩ := W
  obtain ⟨bA, bn, bc⟩ := s
  dsimp only at *
  subst hsn
  clear hWn hWf hl
  unfold Rv.v
  simp only [Sl.v]
  go_enter Try.func32, Try.ntmps32
  go_wp2_with (at_builtin; generalize hw1 : World.alloc (World.alloc w _) _ = w1; obtain ⟨kd, kr, hB⟩ := two_boxes_r (cs1 := [.slice SA Sn Sc, .slice WA Wn Wc]) (cs2 := Rv.zero.cs) hw1; clear hw1; refine wp_appN rfl _ _ 46 rfl (w.heap.size + 2) 61 _ 2 32 wrT2 (.slice none 0 0) 0 [] (World.ownsRow_nil _ _ _ _) rfl WA Wn Wc _ (hWr.keep hB).1 rfl (wr_one ws) (by unfold maxLen; omega) (by omega) kr.lt ?_; intro v2 w2 hown2 r2 a2; go_frame)
  rw [Nat.zero_add, List.nil_append] at hown2
  have kd2 := kd.grown r2 (by intro h; cases h)
  have kr2 := kr.grown r2 (by intro h; cases h)
  have B2 := hB.grown r2 hB.size (fun g hg => by cases hg)
  have hS2 := hS.lt.keep B2
  have hW2 := hWs.lt.keep B2
  have hs2 := hs.below B2
  have hg2 := kr2.lt
  obtain ⟨A2, c2, rfl, _, _, _⟩ := own_formN hown2
  clear kd kr hB r2 a2 hS hWr hWs hs hWc hWm
  obtain ⟨x0, x1⟩ := kd2.c2
  have HO := hid (fun g hg => (hown2.lt g hg).1)
  go_wp2_with fail
  go_region_law (first
    | (refine step_app rfl (.tmp 17) (.tmp 18) 31 rfl w2.heap.size 5 _ 1 bytesT (.slice none 0 0) 0 [] (World.ownsRow_nil _ _ _ _) (by simp [Act.eval, Act.put]) bA 128 bc (l.map byV) (show RL w2.drew 1 bA 128 (l.map byV) from hs2) (by simp [Act.eval, Act.put]) (byV_one l) (by unfold maxLen; omega) (by omega) (Nat.le_refl _) ?_; intro v3 w3 hown3 r3 a3; rw [Nat.zero_add, List.nil_append] at hown3; obtain ⟨A3, c3, rfl, _, hc3, hm3⟩ := own_form hown3; have B3 : Below w2.heap.size w2 w3 := (Below.refl _ _).drew.grown r3 (Nat.le_refl _) (fun g hg => by cases hg); have kd3 := kd2.keep B3; have kr3 := kr2.keep B3; have own3 := own_below hown2 B3; obtain ⟨y0, y1⟩ := kd3.c2; have y2 : ∀ o, (w3.alloc o).cell? ⟨w.heap.size, 0, none⟩ = some (.slice SA Sn Sc) := fun o => (kd3.keep ((Below.refl _ _).alloc (Nat.le_refl _) _)).c2.1)
    | (refine step_appN rfl (.tmp 15) (.tmp 21) 46 rfl (w.heap.size + 2) 61 _ 2 32 wrT2 (.slice A2 Wn c2) Wn (ws.flatMap wrCs) (own3.alloc _) (by simp [Act.eval, Act.put]) _ 1 1 [.int .i64 i, .slice A3 128 c3] (RL.new w3 _ _ _ 2 1 rfl) (by simp [Act.eval, Act.put]) (wr_one [(i, ⟨A3, 128, c3⟩)]) (by unfold maxLen; omega) (by omega) (by have := B3.size; simp; omega) ?_; intro v4 w4 hown4 r4 a4; obtain ⟨A4, c4, rfl, _, hc4, hm4⟩ := own_formN hown4; have kd4 := (kd3.keep ((Below.refl _ _).alloc (Nat.le_refl _) _)).grown r4 (fun hq => absurd (HO.out _ hq) (by omega)); have kr4 := (kr3.keep ((Below.refl _ _).alloc (Nat.le_refl _) _)).grown r4 (fun hq => absurd (HO.out _ hq) (by omega)); obtain ⟨z0, z1⟩ := kd4.c2; obtain ⟨q0, q1⟩ := kr4.c2; have qf := kr4.fz))
  all_goals (
    obtain ⟨k5, g5⟩ := set2 kr4 rfl (.slice SA Sn Sc) (.slice A4 (Wn + 1) c4)
    have ba : Below w3.heap.size w3 (w3.alloc (.cells #[.int .i64 i, .slice A3 128 c3] 61)) := (Below.refl _ _).alloc (Nat.le_refl _) _
    have HO2 := hid (fun g hg => (hown2.lt g hg).2)
    have hS4 := ((hS2.keep B3).keep ba).grown r4 (fun g hg hq => absurd (HO.out g hg) (by omega))
    have hW4 := ((hW2.keep B3).keep ba).grown r4 (fun g hg hq => absurd (HO.out g hg) (by omega))
    have hL3 : SlR (fun b => N b ∧ w2.heap.size ≤ b) w3 ⟨A3, 128, c3⟩ l := ⟨RN.own hown3 (fun b hb => ⟨hN b (by omega), hb⟩), hc3, hm3⟩
    have hL4 := (hL3.keep ba).grown r4 (fun g hg hq => absurd (HO2.out g hg) (by omega))
    have own5 := hown4.kept g5 (.inr (fun hq => absurd (hown4.lt _ hq).1 (by omega)))
    have hS5 := (hS4.grown g5 (fun g hg hq => by cases hg; omega)).mono (N' := N) (fun b hb => hb.1)
    have hW5 := (hW4.grown g5 (fun g hg hq => by cases hg; omega)).mono (N' := N) (fun b hb => hb.1)
    have hL5 := (hL4.grown g5 (fun g hg hq => by cases hg; omega)).mono (N' := N) (fun b hb => hb.1)
    have B4 := ((B2.trans (B3.mono B2.size)).trans (ba.mono (B2.trans (B3.mono B2.size)).size)).grown r4 (by have := B2.size; have := B3.size; simp; omega) (fun g hg => by have := HO.out g hg; omega)
    have B5 := B4.grown g5 B4.size (fun g hg => by cases hg; omega)
    clear hS4 hW4 hL3 hL4 kd4 kr4 z0 z1 q0 q1 qf y0 y1 y2 x0 x1 r3 r4 a3 a4 hown4 hown3 own3 kd3 kr3 hS2 hW2 hown2 kd2 kr2 B4 B3 ba HO HO2
    generalize World.setCell (World.setCell w4 _ _) _ _ = w5 at *
    obtain ⟨e0, e1⟩ := k5.c2
    go_wp2_with fail
    refine bodyPost_ret (v := (⟨⟨SA, Sn, Sc⟩, ⟨A4, Wn + 1, c4⟩⟩ : Rv).v) (by simp [results, Try.results32, go_sem, e0, e1]; rfl) rfl ⟨⟨⟨SA, Sn, Sc⟩, ⟨A4, Wn + 1, c4⟩⟩, rfl, ⟨hS5, ⟨?_, hc4, hm4, ws ++ [(i, ⟨A3, 128, c3⟩)], ?_, ?_, ?_⟩, hll, ?_⟩, B5⟩
    · show Wn + 1 = ((i, l) :: D.W).reverse.length
      rw [List.reverse_cons, List.length_append, ← HWn.out]; rfl
    · rw [List.flatMap_append]
      exact RN.own own5 (fun b hb => hN b (by omega))
    · show Sls N w5 _ ((((i, l) :: D.W).reverse).map (·.2))
      rw [List.reverse_cons, List.map_append, List.map_append]
      exact hW5.snoc hL5
    · show _ = (((i, l) :: D.W).reverse).map (·.1)
      rw [List.reverse_cons, List.map_append, List.map_append, HF.out]; rfl
    · intro y hy
      rcases List.mem_cons.1 hy with rfl | hy
      · exact ⟨hi, HL.out⟩
      · exact hbb y hy)
end Go.Proofs.Ythpalmncfcahkaa
