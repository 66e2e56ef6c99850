/- apply of the reference's disks, walked. Conditions: the sectors read. -/
import Derived.Test.YthpalmncfcahkaaRefRW
set_option linter.unusedSimpArgs false
set_option linter.unusedVariables false
namespace Go.Proofs.Ythpalmncfcahkaa
open Go.RowKit

theorem map_upd (f : Secs) (i n : Nat) (s : List UInt8) : (List.range n).map (upd f i s) = ((List.range n).map f).set i s := by
  apply List.ext_getElem?
  intro k
  rw [List.getElem?_set, List.getElem?_map, List.getElem?_map]
  by_cases hk : k < n
  · simp only [List.getElem?_range hk, Option.map_some, List.length_map, List.length_range]
    unfold upd
    by_cases h : i = k
    · subst h; rw [if_pos rfl, if_pos rfl, if_pos hk]
    · rw [if_neg h, if_neg (fun e => h e.symm)]
  · rw [List.getElem?_eq_none (by simp; omega)]
    simp
    omega
theorem RL.cut1 {w : World} {A : Option Addr} {n : Nat} {xs : List Value} (h : RL w 1 A n xs) {k cap : Nat} (hk : k ≤ n) (hc : n ≤ cap) : RL w 1 (if cap = k then A else A.map (·.add k)) (n - k) (xs.drop k) := by
  have := RL.cut h hk hc
  simpa using this

set_option maxRecDepth 100000 in
set_option maxHeartbeats 2000000 in
theorem refApply_any (N : Nat → Prop) (S B : Sl) (n i m : Nat) (f : Secs) (b : List UInt8) (w : World) (hN : ∀ b, w.heap.size ≤ b → N b) (hS : SecR N w S n f) (hl : ∀ j, j < n → (f j).length = 128) (hi : i < n) (hn : n ≤ 100000)
    (hB : SlR N w B b) (hb : b.length = 128) (hm : m ≤ 128) :
    Calls Try.prog 36 #[S.v, .agg #[.int .i64 i, B.v], .int .i64 m] w fun e w' => ∃ s' : Sl, e = .returned s'.v ∧ SecR N w' s' n (upd f i (b.take m ++ (f i).drop m)) ∧ Below w.heap.size w w' := by
  have hBn : B.n = 128 := by rw [← hB.len, hb]
  have hfi := hl i hi
  obtain ⟨hSn, hSc, hSm, ss, hSr, hSs⟩ := hS
  obtain ⟨s0, hs0, hr0⟩ := hSs.at (i := i) (l := f i) (by simp [hi])
  have hs0n : s0.n = 128 := by rw [← hr0.len, hfi]
  obtain ⟨SA, Sn, Sc⟩ := S
  obtain ⟨BA, Bn, Bc⟩ := B
  obtain ⟨cA, cn, cc⟩ := s0
  dsimp only at *
  subst hBn hs0n
  subst hSn
  obtain ⟨bS, oS, rfl, hbS, hcS⟩ := hSr.1.2 (by omega)
  have CS : Hid (∀ wx, Below w.heap.size w wx → wx.cell? ⟨bS, oS + i, none⟩ = some (.slice cA 128 cc)) := fun wx hx => (hx.cell hbS).trans (hcS i _ (by rw [List.getElem?_map, hs0]; rfl))
  have hBc := hB.nc
  have hBm := hB.cm
  have h0c := hr0.nc
  have h0m := hr0.cm
  dsimp only at hBc hBm h0c h0m
  have HB := hid hB
  have HR0 := hid hr0
  have HSR := hid hSr
  have HSS := hid hSs
  have HFI := hid hfi
  have HBL := hid hb
  have hss : Hid (ss.length = Sn) := by have := hSr.1.1; simp at this; exact this
  have HI : Hid ((ss.map Sl.v)[i]? = some (.slice cA 128 cc)) := by rw [List.getElem?_map, hs0]; exact rfl
  have HS0 := hid hs0
  clear hB hr0 hSr hSs hfi hb hcS hs0 hl
  simp only [Sl.v]
  go_enter Try.func36, Try.ntmps36
  have hP : Blk (w.alloc (.cells #[.int .i64 i, .slice BA 128 Bc] 61)) w.heap.size 61 [.int .i64 i, .slice BA 128 Bc] := Blk.new w _ _
  have b1 : Below w.heap.size w (w.alloc (.cells #[.int .i64 i, .slice BA 128 Bc] 61)) := (Below.refl _ _).alloc (Nat.le_refl _) _
  have HP := hid hP
  clear hP
  go_wp2_with (first
    | (at_builtin; generalize w.alloc (.cells #[.int .i64 i, .slice BA 128 Bc] 61) = w1 at HP b1 ⊢; (refine wp_app _ rfl _ _ 45 rfl w1.heap.size 31 _ 24 slT (.slice none 0 0) 0 [] (World.ownsRow_nil _ _ _ _) rfl (some ⟨bS, oS, none⟩) Sn Sc (ss.map Sl.v) (HSR.out.keep b1).1 rfl (sl_one ss) (by unfold maxLen; omega) (by omega) (Nat.le_refl _) ?_; intro v2 w2 hown2 r2 a2; go_frame; rw [Nat.zero_add, List.nil_append] at hown2; obtain ⟨A2, c2, rfl, _, hc2, hm2⟩ := own_form hown2; have b2 := b1.grown r2 b1.size (fun g hg => by cases hg); have HP2 := hid (HP.out.grown r2 (by intro h; cases h)); obtain ⟨x0, x1⟩ := HP2.out.c2))
    | (at_builtin; (refine wp_app _ rfl _ _ 31 rfl w2.heap.size 5 _ 1 bytesT (.slice none 0 0) 0 [] (World.ownsRow_nil _ _ _ _) rfl BA m Bc ((b.take m).map byV) (by have := ((HB.out.rb).below b2).pre (k := m) hm; exact this) rfl (byV_one _) (by unfold maxLen; omega) (by omega) (Nat.le_refl _) ?_; intro v4 w4 hown4 r4 a4; go_frame; rw [Nat.zero_add, List.nil_append] at hown4; obtain ⟨A4, c4, rfl, _, hc4, hm4⟩ := own_form hown4)))
  have b24 : Below w2.heap.size w2 w4 := (Below.refl _ _).grown r4 (Nat.le_refl _) (fun g hg => by cases hg)
  have b4 := b2.trans (b24.mono b2.size)
  have kb4 := HP2.out.keep b24
  have own24 := (own_below hown2 b24).drew
  have own44 := hown4.drew
  have hgb := kb4.lt
  have hlt2 : w1.heap.size ≤ w2.heap.size := r2.size
  have hlt1 : w.heap.size < w1.heap.size := HP.out.lt
  obtain ⟨g7, rfl, hg7b, _, _, _, _⟩ := own_set own24 hi
  have hg7l : g7 < w2.heap.size := (hown2.lt g7 rfl).2
  have HO4 := hid (fun g hg => (hown4.lt g hg).1)
  have c4i := CS.out w4 b4
  have s28 : ∀ wx, (Instr.slice 31 (.slice cA 128 cc) (some (.int .i64 (m : Int))) none none).run Try.prog wx = .ok (.slice (if cc = m then cA else cA.map (·.add m)) (128 - m) (cc - m)) wx := fun wx => run_from (P := Try.prog) 31 5 Try.underlying31 bytesN1 cA 128 cc m .i64 m rfl hm wx
  have hR28 : RL w4.drew 1 (if cc = m then cA else cA.map (·.add m)) (128 - m) (((f i).drop m).map byV) := by
    have := RL.cut1 (HR0.out.keep b4).r.1 (k := m) (cap := cc) hm h0c
    rwa [← List.map_drop] at this
  generalize (if cc = m then cA else cA.map (·.add m)) = A28 at s28 hR28
  clear x0 x1 HP2 HP hown2 a2 a4 r4 hown4 HB
  obtain ⟨x0, x1⟩ := kb4.c2
  go_wp2_with fail
  go_region_law (refine step_app rfl (.tmp 21) (.tmp 28) 31 rfl w2.heap.size 5 _ 1 bytesT (.slice A4 m c4) m ((b.take m).map byV) own44 (by simp [Act.eval, Act.put]) A28 (128 - m) (cc - m) (((f i).drop m).map byV) hR28 (by simp [Act.eval, Act.put]) (byV_one _) (by unfold maxLen; omega) (by omega) b24.size ?_; intro v5 w5 hown5 r5 a5; obtain ⟨A5, c5, rfl, _, hc5, hm5⟩ := own_form hown5; have kb5 := (show Blk w4.drew _ _ _ from kb4).grown r5 (fun hq => absurd (HO4.out _ hq) (by omega)); obtain ⟨y0, y1⟩ := kb5.c2; have own25 := own24.kept r5 (.inr (fun hq => absurd (HO4.out g7 hq.symm) (by omega))); have b5 := b4.drew.grown r5 b4.size (fun g hg => by have := HO4.out g hg; have := b2.size; omega); have c5i := CS.out w5 b5; obtain ⟨g', hA', _, _, hc7, hf7, hset⟩ := own_set own25 hi; cases hA'; have hc7' : w5.cell? ⟨g7, i, none⟩ = some (.slice cA 128 cc) := hc7.trans HI.out; clear hc7)
  all_goals (
    obtain ⟨own6, g6⟩ := hset (.slice A5 128 c5)
    rw [show m + (128 - m) = 128 by omega, ← List.map_append] at hown5
    have hn5 : SlR (fun b => N b ∧ w2.heap.size ≤ b) w5 ⟨A5, 128, c5⟩ (b.take m ++ (f i).drop m) := ⟨RN.own hown5 (fun b hb => ⟨hN b (by omega), hb⟩), by show 128 ≤ c5; omega, hm5⟩
    have hn6 := (hn5.grown g6 (fun g hg hq => by cases hg; omega)).mono (N' := N) (fun b hb => hb.1)
    have ho4 : Sls (fun b => N b ∧ b < w.heap.size) w4.drew ss ((List.range Sn).map f) := (HSS.out.lt.keep b4).keep (Below.refl _ _).drew
    have ho5 := ho4.grown r5 (fun g hg hq => by have := HO4.out g hg; have := b2.size; omega)
    have ho6 := (ho5.grown g6 (fun g hg hq => by cases hg; omega)).mono (N' := N) (fun b hb => hb.1)
    have hs6 := ho6.set hn6 i
    rw [← map_upd] at hs6
    have b6 := b5.grown g6 b5.size (fun g hg => by cases hg; omega)
    clear hn5 hn6 ho4 ho5 ho6 g6 hset own25 hown5 r5 y0 y1 x0 x1 c4i c5i hc7' hf7 kb5 kb4 own24 own44 hR28 s28
    generalize w5.setCell ⟨g7, i, none⟩ (.slice A5 128 c5) = w6 at *
    go_wp2_with fail
    go_ret
    refine ⟨⟨some ⟨g7, 0, none⟩, Sn, c2⟩, rfl, ⟨rfl, hc2, hm2, ss.set i ⟨A5, 128, c5⟩, ?_, hs6⟩, b6⟩
    rw [List.map_set]
    exact RN.own own6 (fun b hb => hN b (by omega)))
end Go.Proofs.Ythpalmncfcahkaa
