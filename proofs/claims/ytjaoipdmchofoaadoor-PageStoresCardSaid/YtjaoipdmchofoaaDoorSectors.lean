/- The law's sectors, walked. Conditions: the disk reads. -/
import Derived.Test.YtjaoipdmchofoaaDoorPgP
set_option linter.unusedSimpArgs false
set_option linter.unusedVariables false
namespace Go.Proofs.YtjaoipdmchofoaaDoor
open Go.RowKit

set_option maxRecDepth 100000 in
set_option maxHeartbeats 2000000 in
theorem lawSectors_any (d : DV) (D : Dk) (s : Int) (w : World) (hd : DkV w d D) (h0 : -1 ≤ s) (h1 : s ≤ 17) :
    Calls Tryd.prog 27 #[d.v, .int .i64 s] w fun e w' => (((0 ≤ s ∧ s + 8 ≤ D.n) ∧ ∃ A c, e = .returned (.slice A 1024 c) ∧ RB w' A 1024 (secs D.cur s.toNat 8) ∧ 1024 ≤ c ∧ c ≤ 9223372036854775807) ∨ (¬ (0 ≤ s ∧ s + 8 ≤ D.n) ∧ e = .returned (.slice none 0 0))) ∧ Below w.heap.size w w' := by
  have hdn := hd.hn
  have HR : Hid (∀ (k : Nat) w', 0 ≤ s → s + k < D.n → Below w.heap.size w w' → Calls Tryd.prog 26 #[d.v, .int .i64 (s + k)] w' fun e w'' => ∃ g, e = .returned (.tuple #[.slice (some ⟨g, 0, none⟩) 128 128, .int .i64 0]) ∧ w''.ownsRow w'.heap.size 5 1 (.slice (some ⟨g, 0, none⟩) 128 128) 128 ((D.cur (s.toNat + k)).map byV) ∧ Below w'.heap.size w' w'') := fun k w' hs hk hb => by
    have := read_good d D (s.toNat + k) w' (hd.keep hb) (by omega)
    rwa [Int.natCast_add, Int.toNat_of_nonneg hs] at this
  have HX : Hid (∀ (k : Nat) w', (s + k < 0 ∨ D.n ≤ s + k) → _) := fun k w' hk => read_bad d (s + k) w' (by rw [hd.n]; omega)
  have HL : Hid (∀ i, i < D.n → (D.cur i).length = 128) := fun i hi => hd.len hi
  unfold DV.v at HR HX
  rw [show d.v = Value.agg #[.int .i64 d.n, .pointer d.s, .pointer d.c, .pointer d.l, .int .i64 d.m] from rfl]
  clear hd
  go_enter Tryd.func27, Tryd.ntmps27
  go_wp2_with fail
  have hP : Blk (w.alloc (.cells #[.int .i64 d.n, .pointer d.s, .pointer d.c, .pointer d.l, .int .i64 d.m] 52)) w.heap.size 52 [.int .i64 d.n, .pointer d.s, .pointer d.c, .pointer d.l, .int .i64 d.m] := Blk.new w _ _
  have hB : Below w.heap.size w (w.alloc (.cells #[.int .i64 d.n, .pointer d.s, .pointer d.c, .pointer d.l, .int .i64 d.m] 52)) := (Below.refl _ _).alloc (Nat.le_refl _) _
  have hS : (w.alloc (.cells #[.int .i64 d.n, .pointer d.s, .pointer d.c, .pointer d.l, .int .i64 d.m] 52)).heap.size = w.heap.size + 1 := by simp
  generalize (w.alloc (.cells #[.int .i64 d.n, .pointer d.s, .pointer d.c, .pointer d.l, .int .i64 d.m] 52)) = w1 at hP hB hS ⊢
  have hS1 := hS
  clear hS
  go_loopw [5, 9] (fun o i wr => ∃ (k : Nat) (A : Option Addr) (c : Nat), k ≤ 8 ∧ i = .int .i64 k ∧ o = .slice A (k * 128) c ∧ (k = 0 ∨ (0 ≤ s ∧ s + k ≤ D.n)) ∧ wr.ownsRow w1.heap.size 5 1 (.slice A (k * 128) c) (k * 128) ((secs D.cur s.toNat k).map byV) ∧ Below w1.heap.size w1 wr) (fun _ i _ => 8 - (intOf i).toNat)
  case atStart => exact ⟨0, none, 0, by omega, rfl, rfl, .inl rfl, World.ownsRow_nil _ _ _ _, Below.refl _ _⟩
  case round =>
    obtain ⟨k, A, c, hk, rfl, rfl, hin, hown, hbel⟩ := hrel
    have B1 := hB.trans (hbel.mono hB.size)
    have kd := hP.keep hbel
    by_cases hlt : k < 8
    · obtain ⟨x0, x1, x2, x3, x4⟩ := kd.c5
      by_cases hr : 0 ≤ s + k ∧ s + k < D.n
      · have hs : 0 ≤ s := by omega
        go_wp2_with fail
        refine (HR.out k _ hs hr.2 B1).mono ?_
        rintro e w5 ⟨g5, rfl, hown5, b5⟩
        have hr5 : RB w5 (some ⟨g5, 0, none⟩) 128 (D.cur (s.toNat + k)) := RL.of_own hown5
        have hown2 := own_below hown b5
        have hb2 := hbel.trans (b5.mono hbel.size)
        clear x0 x1 x2 x3 x4 hown kd
        go_wp2_with (at_builtin; refine wp_app _ rfl _ _ 23 rfl w1.heap.size 5 _ 1 bytesT _ _ _ hown2 rfl _ _ _ _ hr5 rfl (byV_one _) (by unfold maxLen; omega) (by omega) hb2.size ?_; intro v6 w6 hown6 r6 a6)
        rw [show k * 128 + 128 = (k + 1) * 128 by omega, ← List.map_append, ← secs_next] at hown6
        have B6 := hb2.grown r6 hb2.size (fun q hq => (hown2.lt q hq).1)
        obtain ⟨A6, c6, rfl, _, _, _⟩ := own_form hown6
        go_roundw
        case rel => exact ⟨k + 1, A6, c6, by omega, by go_num, rfl, .inr ⟨hs, by omega⟩, hown6, B6⟩
        case measure => simp [intOf]; omega
      · have hbad : s + k < 0 ∨ (D.n : Int) ≤ s + k := by omega
        go_wp2_with fail
        refine (HX.out k _ hbad).mono ?_
        rintro e w5 ⟨rfl, b5⟩
        go_wp2_with fail
        go_ret
        exact ⟨.inr ⟨by omega, rfl⟩, B1.trans (b5.mono B1.size)⟩
    · obtain rfl : k = 8 := by omega
      have hrb : RB wr A 1024 (secs D.cur s.toNat 8) := RL.of_own hown
      obtain ⟨A', c', e', _, hc1, hc2⟩ := own_form hown
      cases e'
      go_wp2_with fail
      go_ret
      exact ⟨.inl ⟨by omega, A, c, rfl, hrb, hc1, hc2⟩, B1⟩
end Go.Proofs.YtjaoipdmchofoaaDoor
