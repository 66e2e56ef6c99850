/- Encode of package page, walked once. Conditions: the table of remainders is laid; the page's body reads. -/
import Derived.Test.YtanglofabkbllaaDoorApp
import Derived.Test.YtanglofabkbllaaDoorNum
import Derived.Test.YtanglofabkbllaaDoorDraw
set_option linter.unusedSimpArgs false
set_option linter.unusedVariables false
namespace Go.Proofs.YtanglofabkbllaaDoor
open Go.RowKit

def pageV (id stamp kind : Int) (A : Option Addr) (n c : Nat) : Value := .agg #[.int .i64 id, .int .u64 stamp, .int .i64 kind, .slice A n c]
theorem arr1020 : ArrT Tryd.prog 122 ((zeroB 1020).map byV) := by
  unfold ArrT
  kernel_rfl
theorem arr1020n : (Tryd.prog.info? 122).map (·.size) = some 1020 := by kernel_rfl

theorem oneByte : (Tryd.prog.info? 5).map (·.size) = some 1 := by kernel_rfl

/-- what Encode keeps while it fills its array -/
structure Enc (w0 : World) (g g4 g5 g6 id stamp : Nat) (kind : Int) (A : Option Addr) (n c : Nat) (l : List UInt8) (w : World) (cur : List UInt8) : Prop where
  o : BlkB w g 122 cur
  q4 : BlkB w g4 120 (le 8 id)
  q5 : BlkB w g5 120 (le 8 stamp)
  q6 : BlkB w g6 120 (le 8 n)
  qP : Blk w w0.heap.size 85 [.int .i64 id, .int .u64 stamp, .int .i64 kind, .slice A n c]
  b : Below w0.heap.size w0 w
  hg : w0.heap.size < g
  n4 : g ≠ g4
  n5 : g ≠ g5
  n6 : g ≠ g6
section
variable {w0 w w' : World} {g g4 g5 g6 id stamp : Nat} {kind : Int} {A : Option Addr} {n c : Nat} {l : List UInt8} {cur cur' : List UInt8}
theorem Enc.drew (h : Enc w0 g g4 g5 g6 id stamp kind A n c l w cur) : Enc w0 g g4 g5 g6 id stamp kind A n c l w.drew cur := ⟨h.o, h.q4, h.q5, h.q6, h.qP, h.b.drew, h.hg, h.n4, h.n5, h.n6⟩
theorem Enc.step (h : Enc w0 g g4 g5 g6 id stamp kind A n c l w cur) (ho : BlkB w' g 122 cur') (r : w.grownBy w' (some g)) : Enc w0 g g4 g5 g6 id stamp kind A n c l w' cur' :=
  ⟨ho, h.q4.grown r (by simpa using h.n4), h.q5.grown r (by simpa using h.n5), h.q6.grown r (by simpa using h.n6), h.qP.grown r (by have := h.hg; simp; omega),
    h.b.grown r h.b.size (fun k hk => by cases hk; exact Nat.le_of_lt h.hg), h.hg, h.n4, h.n5, h.n6⟩
end

set_option maxRecDepth 100000 in
set_option maxHeartbeats 2000000 in
theorem encode_good (id kind : Nat) (stamp : Nat) (A : Option Addr) (n c : Nat) (l : List UInt8) (w : World) (hT : Tab w) (hb : RB w A n l) (h1 : id ≤ 2147483647) (h2 : kind ≤ 255) (h3 : n ≤ 1000) (h4 : stamp < 18446744073709551616) :
    Calls Tryd.prog 36 #[pageV id stamp kind A n c] w fun e w' => ∃ v, e = .returned (.tuple #[v, .int .i64 0]) ∧ w'.ownsRow w.heap.size 5 1 v 1024 ((encoded id stamp kind l).map byV) ∧ Below w.heap.size w w' := by
  have HL := hid hb.len
  have d1 : ¬ ((id : Int) < 0) := by omega
  have d2 : ¬ ((id : Int) > 2147483647) := by omega
  have d3 : ¬ ((kind : Int) < 0) := by omega
  have d4 : ¬ ((kind : Int) > 255) := by omega
  have d5 : ¬ ((n : Int) > 1000) := by omega
  unfold pageV
  go_enter Tryd.func36, Tryd.ntmps36
  go_wp2_with fail
  have hP : Blk (w.alloc (.cells #[.int .i64 id, .int .u64 stamp, .int .i64 kind, .slice A n c] 85)) w.heap.size 85 [.int .i64 id, .int .u64 stamp, .int .i64 kind, .slice A n c] := Blk.new w _ _
  have hB1 : Below w.heap.size w (w.alloc (.cells #[.int .i64 id, .int .u64 stamp, .int .i64 kind, .slice A n c] 85)) := (Below.refl _ _).alloc (Nat.le_refl _) _
  have hS1 : (w.alloc (.cells #[.int .i64 id, .int .u64 stamp, .int .i64 kind, .slice A n c] 85)).heap.size = w.heap.size + 1 := by simp
  generalize (w.alloc (.cells #[.int .i64 id, .int .u64 stamp, .int .i64 kind, .slice A n c] 85)) = w1 at hP hB1 hS1
  have c0 : ∀ (x : Ext w1) (y : Ext x.w), y.w.cell? ⟨w.heap.size, 0, none⟩ = some (.int .i64 id) := fun x y => Ext.cell (Ext.cell (hP.cell 0) x) y
  have c1 : ∀ (x : Ext w1) (y : Ext x.w), y.w.cell? ⟨w.heap.size, 1, none⟩ = some (.int .u64 stamp) := fun x y => Ext.cell (Ext.cell (hP.cell 1) x) y
  have c3 : ∀ (x : Ext w1) (y : Ext x.w), y.w.cell? ⟨w.heap.size, 3, none⟩ = some (.slice A n c) := fun x y => Ext.cell (Ext.cell (hP.cell 3) x) y
  let X : Value → Prop := fun u => ∃ g, w1.heap.size ≤ g ∧ u = .pointer (some ⟨g, 0, none⟩)
  refine wp_region_tailU 15 (fun k => ([(fun u => u = .pointer (some ⟨w.heap.size, 0, none⟩)), (fun u => u = .int .i64 id), (fun u => u = .int .u64 id), (fun u => u = .agg ((le 8 id).map byV).toArray),
    (fun u => u = .pointer (some ⟨w.heap.size, 1, none⟩)), (fun u => u = .int .u64 stamp), (fun u => u = .agg ((le 8 stamp).map byV).toArray),
    (fun u => u = .pointer (some ⟨w.heap.size, 3, none⟩)), (fun u => u = .slice A n c), (fun u => u = .int .i64 n), (fun u => u = .int .u64 n), (fun u => u = .agg ((le 8 n).map byV).toArray), X, X, X] : List (Value → Prop)).getD k (fun _ => True))
    (Ptrs w1.heap.size [(4, 120), (5, 120), (6, 120)] (fun _ => (List.replicate 8 0).map byV)) (by kernel_rfl) (by kernel_rfl) ?_ ?_ ?_
  · intro o ho
    refine pres_ptr (Nat.le_refl _) ?_ ?_
    · intro x hx
      simp only [List.mem_cons, List.not_mem_nil, or_false] at hx
      rcases hx with rfl | rfl | rfl <;> exact arr8
    · revert o ho
      exact List.all_eq_true.1 (by kernel_rfl)
  · refine Ptrs.start ?_
    intro x hx
    simp only [List.mem_cons, List.not_mem_nil, or_false] at hx
    rcases hx with rfl | rfl | rfl <;> rfl
  · simp only [List.take_succ_cons, List.take_zero]
    (refine wpU_quiet ((.pointer (some ⟨w.heap.size, 0, none⟩))) rfl (of_decide_eq_true (by kernel_rfl)) rfl (fun _ => ?_); go_big_quiet_step ((fail)); refine wpQuiet_nil ⟨rfl, ?_⟩)
    (refine wpU_quiet ((.int .i64 id)) rfl (of_decide_eq_true (by kernel_rfl)) rfl (fun _ => ?_); go_big_quiet_step ((fail)); refine wpQuiet_nil ⟨rfl, ?_⟩)
    (refine wpU_quiet ((.int .u64 id)) rfl (of_decide_eq_true (by kernel_rfl)) rfl (fun _ => ?_); go_big_quiet_step ((fail)); refine wpQuiet_nil ⟨rfl, ?_⟩)
    (refine wpU_quiet ((.agg ((le 8 id).map byV).toArray)) rfl (of_decide_eq_true (by kernel_rfl)) rfl (fun _ => ?_); go_big_quiet_step ((exact Ext.calls _ (number_any _ (by omega) _))); refine wpQuiet_nil ⟨rfl, ?_⟩)
    (refine wpU_quiet ((.pointer (some ⟨w.heap.size, 1, none⟩))) rfl (of_decide_eq_true (by kernel_rfl)) rfl (fun _ => ?_); go_big_quiet_step ((fail)); refine wpQuiet_nil ⟨rfl, ?_⟩)
    (refine wpU_quiet ((.int .u64 stamp)) rfl (of_decide_eq_true (by kernel_rfl)) rfl (fun _ => ?_); go_big_quiet_step ((fail)); refine wpQuiet_nil ⟨rfl, ?_⟩)
    (refine wpU_quiet ((.agg ((le 8 stamp).map byV).toArray)) rfl (of_decide_eq_true (by kernel_rfl)) rfl (fun _ => ?_); go_big_quiet_step ((exact Ext.calls _ (number_any _ (by omega) _))); refine wpQuiet_nil ⟨rfl, ?_⟩)
    (refine wpU_quiet ((.pointer (some ⟨w.heap.size, 3, none⟩))) rfl (of_decide_eq_true (by kernel_rfl)) rfl (fun _ => ?_); go_big_quiet_step ((fail)); refine wpQuiet_nil ⟨rfl, ?_⟩)
    (refine wpU_quiet ((.slice A n c)) rfl (of_decide_eq_true (by kernel_rfl)) rfl (fun _ => ?_); go_big_quiet_step ((fail)); refine wpQuiet_nil ⟨rfl, ?_⟩)
    (refine wpU_quiet ((.int .i64 n)) rfl (of_decide_eq_true (by kernel_rfl)) rfl (fun _ => ?_); go_big_quiet_step ((fail)); refine wpQuiet_nil ⟨rfl, ?_⟩)
    (refine wpU_quiet ((.int .u64 n)) rfl (of_decide_eq_true (by kernel_rfl)) rfl (fun _ => ?_); go_big_quiet_step ((fail)); refine wpQuiet_nil ⟨rfl, ?_⟩)
    (refine wpU_quiet ((.agg ((le 8 n).map byV).toArray)) rfl (of_decide_eq_true (by kernel_rfl)) rfl (fun _ => ?_); go_big_quiet_step ((exact Ext.calls _ (number_any _ (by omega) _))); refine wpQuiet_nil ⟨rfl, ?_⟩)
    refine wpU_alloc _ arr8 rfl (fun g4 hg4 => ?_)
    refine wpU_alloc _ arr8 rfl (fun g5 hg5 => ?_)
    refine wpU_alloc _ arr8 rfl (fun g6 hg6 => ?_)
    intro w2 hB2 hΦ
    obtain ⟨p4, hp4, hq4, hz4⟩ := (hΦ.each (4, 120) (by simp)).resolve_left (by intro h; cases h)
    cases hq4
    obtain ⟨p5, hp5, hq5, hz5⟩ := (hΦ.each (5, 120) (by simp)).resolve_left (by intro h; cases h)
    cases hq5
    obtain ⟨p6, hp6, hq6, hz6⟩ := (hΦ.each (6, 120) (by simp)).resolve_left (by intro h; cases h)
    cases hq6
    have n45 : g4 ≠ g5 := fun h => hΦ.apart (4, 120) (by simp) (5, 120) (by simp) (by decide) g4 rfl (by rw [h]; rfl)
    have n46 : g4 ≠ g6 := fun h => hΦ.apart (4, 120) (by simp) (6, 120) (by simp) (by decide) g4 rfl (by rw [h]; rfl)
    have n56 : g5 ≠ g6 := fun h => hΦ.apart (5, 120) (by simp) (6, 120) (by simp) (by decide) g5 rfl (by rw [h]; rfl)
    clear hΦ X c0 c1 c3
    simp only [List.drop_succ_cons, List.drop_zero]
    have hP2 := hP.keep hB2
    have hB2' : Below w.heap.size w w2 := hB1.trans (hB2.mono (by omega))
    refine wp_storeB g4 _ _ _ hz4 (arr8n.trans (by simp)) (by simp) (byV_one _) rfl rfl (fun w3 k4 r3 => ?_)
    have hB3 : Below w.heap.size w w3 := hB2'.grown r3 hB2'.size (fun g hg => by cases hg; omega)
    have hP3 := hP2.grown r3 (by intro h; cases h; omega)
    have hz5' := hz5.grown r3 (by simpa using n45)
    have hz6' := hz6.grown r3 (by simpa using n46)
    clear hz4 hz5 hz6 hP2 hP
    refine wp_storeB g5 _ _ _ hz5' (arr8n.trans (by simp)) (by simp) (byV_one _) rfl rfl (fun w4 k5 r4 => ?_)
    have hB4 : Below w.heap.size w w4 := hB3.grown r4 hB3.size (fun g hg => by cases hg; omega)
    have hP4 := hP3.grown r4 (by intro h; cases h; omega)
    have k4' := k4.grown r4 (by simpa using n45.symm)
    have hz6'' := hz6'.grown r4 (by simpa using n56)
    clear hz5' hz6' hP3 k4
    refine wp_storeB g6 _ _ _ hz6'' (arr8n.trans (by simp)) (by simp) (byV_one _) rfl rfl (fun w5 k6 r5 => ?_)
    have hB5 : Below w.heap.size w w5 := hB4.grown r5 hB4.size (fun g hg => by cases hg; omega)
    have hP5 := hP4.grown r5 (by intro h; cases h; omega)
    have k4'' := k4'.grown r5 (by simpa using n46.symm)
    have k5' := k5.grown r5 (by simpa using n56.symm)
    clear hz6'' hP4 k4' k5
    have l4 := k4''.lt
    have l5 := k5'.lt
    have l6 := k6.lt
    dsimp only at k4'' k5' k6
    go_frame
    go_wp2_with (first
      | ((with_reducible refine is_alloc 122 ?_); refine wp_allocB _ arr1020 ?_; intro w6 kO hB6' hs6; go_frame)
      | ((with_reducible refine is_copy ?_); refine wp_copyFS w5.heap.size 0 4 1020 _ _ [] 1020 kO rfl bytesT.1 oneByte [79, 80, 71, 49] rfl rfl (by omega) (by simp) ?_; intro w7 kO7 r7; go_frame))
    have e1 : [] ++ [79, 80, 71, 49] ++ zeroB (1020 - [(79 : UInt8), 80, 71, 49].length) = [79, 80, 71, 49] ++ zeroB 1016 := rfl
    rw [e1] at kO7
    have gP := hP5.lt
    have n4 : (some w5.heap.size) ≠ some g4 := by simp; omega
    have n5 : (some w5.heap.size) ≠ some g5 := by simp; omega
    have n6 : (some w5.heap.size) ≠ some g6 := by simp; omega
    have nP : (some w5.heap.size) ≠ some w.heap.size := by simp; omega
    have E7 : Enc w w5.heap.size g4 g5 g6 id stamp kind A n c l w7 ([79, 80, 71, 49] ++ zeroB 1016) := ⟨kO7, (k4''.below hB6' l4).grown r7 n4, (k5'.below hB6' l5).grown r7 n5, (k6.below hB6' l6).grown r7 n6, (hP5.below hB6' gP).grown r7 nP,
      (hB5.trans (hB6'.mono hB5.size)).grown r7 (by have := hB5.size; omega) (fun g hg => by cases hg; exact hB5.size), gP, by omega, by omega, by omega⟩
    clear e1 kO kO7 hB6' r7 k4'' k5' k6 hP5 hB5 r5 hB4 hB3 hB2' r4 r3 hB2 hB1 l4 l5 l6 n4 n5 n6 nP gP hs6 hp4 hp5 hp6 hg4 hg5 hg6
    generalize w5.heap.size = go at E7 ⊢
    go_still_tail 2, (by kernel_rfl)
    have D7 := E7.drew
    refine wp_copyF go 4 4 1016 _ _ _ 1016 D7.o rfl bytesT.1 oneByte (some ⟨g4, 0, none⟩) 8 8 (le 8 id) (D7.q4.cells (by simp)) rfl rfl (by omega) (fun w8 kO8 r8 => ?_)
    have E8 := D7.step kO8 r8
    clear E7 D7 kO8 r8
    go_frame
    go_wp2_with fail
    go_still_tail 2, (by kernel_rfl)
    have D8 := E8.drew
    refine wp_copyF go 8 8 1012 _ _ _ _ D8.o rfl bytesT.1 oneByte (some ⟨g5, 0, none⟩) 8 8 (le 8 stamp) (D8.q5.cells (by simp)) rfl rfl (by decide) (fun w9 kO9 r9 => ?_)
    have E9 := D8.step kO9 r9
    clear E8 D8 kO9 r9
    go_frame
    have e9 : [79, 80, 71, 49] ++ List.take (min 8 4) (le 8 id) ++ List.take (min 8 8) (le 8 stamp) ++ zeroB (1016 - min 8 4 - min 8 8) = (([79, 80, 71, 49] ++ le 4 id ++ le 8 stamp) ++ zeroB 1004 : List UInt8) := by
      rw [show min 8 4 = 4 from rfl, show min 8 8 = 8 from rfl, le_take 4 8 _ (by omega), le_take 8 8 _ (by omega)]
    rw [e9] at E9
    have hlen : ([79, 80, 71, 49] ++ le 4 id ++ le 8 stamp : List UInt8).length = 16 := by simp
    have k9 : w9.cell? ⟨w.heap.size, 2, none⟩ = some (.int .i64 kind) := E9.qP.cell 2
    have z9 : w9.cell? ⟨go, 16, none⟩ = some (byV 0) := by
      rw [E9.o.cell, List.getElem?_map, List.getElem?_append_right (by rw [hlen]; omega), hlen, zeroB_at (by omega)]; rfl
    have f9 : w9.frozen? ⟨go, 16, none⟩ = false := E9.o.frozen 16
    go_wp2_with fail
    have E10 := E9.step (by
      have := E9.o.set_ 16 (byV (UInt8.ofNat kind))
      rw [fill_one _ _ _ _ hlen (by omega)] at this
      exact this) (E9.o.setg 16 _)
    have eK : byV (UInt8.ofNat kind) = .int .u8 kind := by
      unfold byV N8; congr 1; simp; omega
    rw [eK] at E10
    generalize w9.setCell _ _ = w10 at E10 ⊢
    clear k9 z9 f9 E9 e9
    have e10 : ([79, 80, 71, 49] ++ le 4 id ++ le 8 stamp ++ [UInt8.ofNat kind] ++ zeroB (1004 - 1) : List UInt8) = ([79, 80, 71, 49] ++ le 4 id ++ le 8 stamp ++ [UInt8.ofNat kind, 0]) ++ zeroB 1002 := by
      rw [zeroB_cons (by omega : 0 < 1004 - 1)]; simp
    rw [e10] at E10
    have hlen2 : ([79, 80, 71, 49] ++ le 4 id ++ le 8 stamp ++ [UInt8.ofNat kind, 0] : List UInt8).length = 18 := by simp
    go_still_tail 2, (by kernel_rfl)
    have D10 := E10.drew
    refine wp_copyF go 18 2 1002 _ _ _ _ D10.o hlen2 bytesT.1 oneByte (some ⟨g6, 0, none⟩) 8 8 (le 8 n) (D10.q6.cells (by simp)) rfl rfl (by decide) (fun w11 kO11 r11 => ?_)
    have E11 := D10.step kO11 r11
    clear E10 D10 kO11 r11 e10
    rw [show min 8 2 = 2 from rfl, le_take 2 8 _ (by omega), show 1002 - 2 = 1000 from rfl] at E11
    go_frame
    go_wp2_with fail
    have k11 : w11.cell? ⟨w.heap.size, 3, none⟩ = some (.slice A n c) := E11.qP.cell 3
    go_still_tail 3, (by kernel_rfl)
    have D11 := E11.drew
    refine wp_copyF go 20 1000 1000 _ _ _ _ D11.o (by simp) bytesT.1 oneByte A n c l (hb.below D11.b) rfl rfl (by omega) (fun w12 kO12 r12 => ?_)
    have E12 := D11.step kO12 r12
    clear E11 D11 kO12 r12 k11
    rw [Nat.min_eq_left h3, List.take_of_length_le (by rw [HL.out]; omega)] at E12
    have e12 : ([79, 80, 71, 49] ++ le 4 id ++ le 8 stamp ++ [UInt8.ofNat kind, 0] ++ le 2 n ++ l ++ zeroB (1000 - n)) = plainPage id stamp kind l := by
      unfold plainPage zeroB; rw [HL.out]
    rw [e12] at E12
    have hL : (plainPage id stamp kind l).length = 1020 := plainPage_len (by rw [HL.out]; omega)
    go_frame
    go_wp2_with fail
    refine (append_any _ _ _ (plainPage id stamp kind l) _ (hT.below E12.b hT.pos) (E12.o.cells hL) (by omega)).mono ?_
    rintro e w' ⟨v, rfl, hown, hb2⟩
    go_wp2_with fail
    go_ret2
    refine ⟨v, rfl, ?_, E12.b.trans (hb2.mono E12.b.size)⟩
    rw [sealed_len, hL] at hown
    exact own_base hown E12.b.size
end Go.Proofs.YtanglofabkbllaaDoor
