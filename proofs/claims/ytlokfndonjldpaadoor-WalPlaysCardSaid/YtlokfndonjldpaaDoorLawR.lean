/- region of layer 12's laws, walked. Conditions: the disk reads, and the region lies on it. -/
import Derived.Test.YtlokfndonjldpaaDoorAct
import Derived.Test.YtlokfndonjldpaaDoorLawS
set_option linter.unusedSimpArgs false
set_option linter.unusedVariables false
namespace Go.Proofs.YtlokfndonjldpaaDoor
open Go.RowKit

theorem seg_snoc (f : Secs) (a q : Nat) : seg f a (q + 1) = seg f a q ++ [f (a + q)] := by
  unfold seg
  rw [List.range_succ, List.map_append]
  rfl
theorem seg_flat_len (f : Secs) (a : Nat) : ∀ q, (∀ i, a ≤ i → i < a + q → (f i).length = 128) → (seg f a q).flatten.length = 128 * q
  | 0, _ => rfl
  | q + 1, h => by
    rw [seg_snoc, List.flatten_append, List.length_append, seg_flat_len f a q fun i h1 h2 => h i h1 (by omega)]
    simp [h (a + q) (by omega) (by omega)]
    omega
set_option maxRecDepth 100000 in
set_option maxHeartbeats 2000000 in
theorem region_any (d : DV) (D : Dk) (fr n : Nat) (w : World) (hd : DkV w d D) (hin : fr + n ≤ D.n) :
    Calls Tryd.prog 23 #[d.v, .int .i64 fr, .int .i64 n] w fun e w' => ∃ A c, e = .returned (.slice A (128 * n) c) ∧ w'.ownsRow w.heap.size 5 1 (.slice A (128 * n) c) (128 * n) ((seg D.cur fr n).flatten.map byV) ∧ Below w.heap.size w w' := by
  have hdn := hd.hn
  have HR := hid (fun (k : Nat) w' (hb : Below w.heap.size w w') (hk : k < n) => read_good d D (fr + k) w' (hd.keep hb) (by omega))
  unfold DV.v at HR
  rw [show d.v = Value.agg #[.int .i64 d.n, .pointer d.s, .pointer d.c, .pointer d.l, .int .i64 d.m] from rfl]
  clear hd
  go_enter Tryd.func23, Tryd.ntmps23
  go_wp2_with fail
  have hP : Blk (w.alloc (.cells #[.int .i64 d.n, .pointer d.s, .pointer d.c, .pointer d.l, .int .i64 d.m] 38)) w.heap.size 38 [.int .i64 d.n, .pointer d.s, .pointer d.c, .pointer d.l, .int .i64 d.m] := Blk.new w _ _
  have hB : Below w.heap.size w (w.alloc (.cells #[.int .i64 d.n, .pointer d.s, .pointer d.c, .pointer d.l, .int .i64 d.m] 38)) := (Below.refl _ _).alloc (Nat.le_refl _) _
  have hS : (w.alloc (.cells #[.int .i64 d.n, .pointer d.s, .pointer d.c, .pointer d.l, .int .i64 d.m] 38)).heap.size = w.heap.size + 1 := by simp
  generalize (w.alloc (.cells #[.int .i64 d.n, .pointer d.s, .pointer d.c, .pointer d.l, .int .i64 d.m] 38)) = w1 at hP hB hS ⊢
  have hS1 := hS
  clear hS
  go_loopw [7, 8] (fun o i wr => ∃ (k : Nat) (A : Option Addr) (c : Nat), k ≤ n ∧ i = .int .i64 k ∧ o = .slice A (128 * k) c ∧ wr.ownsRow w1.heap.size 5 1 (.slice A (128 * k) c) (128 * k) ((seg D.cur fr k).flatten.map byV) ∧ Below w1.heap.size w1 wr) (fun _ i _ => n - (intOf i).toNat)
  case atStart => exact ⟨0, none, 0, by omega, rfl, rfl, World.ownsRow_nil _ _ _ _, Below.refl _ _⟩
  case round =>
    obtain ⟨k, A, c, hk, rfl, rfl, hown, hbel⟩ := hrel
    have B1 := hB.trans (hbel.mono hB.size)
    have kd := hP.keep hbel
    by_cases hlt : k < n
    · obtain ⟨x0, x1, x2, x3, x4⟩ := kd.c5
      have e0 := IntWalk.i64_in ((fr : Int) + (k : Int)) (by omega)
      go_wp2_with fail
      have R := HR.out k _ B1 hlt
      rw [show ((fr + k : Nat) : Int) = (fr : Int) + (k : Int) by omega] at R
      refine R.mono ?_
      clear R
      rintro e w5 ⟨g5, rfl, hown5, b5⟩
      have hr5 : RB w5 (some ⟨g5, 0, none⟩) 128 (D.cur (fr + k)) := RL.of_own hown5
      have hown2 := own_below hown b5
      have hb2 := hbel.trans (b5.mono hbel.size)
      clear x0 x1 x2 x3 x4 hown kd
      go_wp2_with (at_builtin; refine wp_app _ rfl _ _ 25 rfl w1.heap.size 5 _ 1 bytesT _ _ _ hown2 rfl _ _ _ _ hr5 rfl (byV_one _) (by unfold maxLen; omega) (by omega) hb2.size ?_; intro v6 w6 hown6 r6 a6)
      rw [show 128 * k + 128 = 128 * (k + 1) by omega, ← List.map_append, show (seg D.cur fr k).flatten ++ D.cur (fr + k) = (seg D.cur fr (k + 1)).flatten by rw [seg_snoc, List.flatten_append]; simp] at hown6
      have B6 := hb2.grown r6 hb2.size (fun q hq => (hown2.lt q hq).1)
      obtain ⟨A6, c6, rfl, _, _, _⟩ := own_form hown6
      go_roundw
      case rel => exact ⟨k + 1, A6, c6, by omega, by go_num, rfl, hown6, B6⟩
      case measure => simp [intOf]; omega
    · obtain rfl : k = n := by omega
      go_wp2_with fail
      go_ret
      exact ⟨A, c, rfl, own_base hown (by omega), B1⟩
end Go.Proofs.YtlokfndonjldpaaDoor
