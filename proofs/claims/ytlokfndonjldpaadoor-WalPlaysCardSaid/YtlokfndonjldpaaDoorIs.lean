/- is of layer 12's laws, walked. Conditions: the log fits; the reference's state is its. -/
import Derived.Test.YtlokfndonjldpaaDoorAct
import Derived.Test.YtlokfndonjldpaaDoorStt
import Derived.Test.YtlokfndonjldpaaDoorOpen
import Derived.Deep.QuietTactic
import Derived.BigQuiet
set_option linter.unusedSimpArgs false
set_option linter.unusedVariables false
namespace Go.Proofs.YtlokfndonjldpaaDoor
open Go.RowKit

set_option maxRecDepth 100000 in
set_option maxHeartbeats 4000000 in
theorem is_any (l : Lg) (s : Stt) (n : Nat) (w : World) (hl : l.ok) (hnx : l.nx = s.nx) (hsec : s.sec ≤ n) (hn : n ≤ 10000) (hleft : l.left = n - s.sec) :
    Calls Tryd.prog 20 #[l.v, s.v, .int .i64 n] w fun e w' => e = .returned (.bool true) ∧ Below w.heap.size w w' := by
  have S1 := fun wx => next_any l wx
  have S2 := fun wx => room_any l wx hl
  have S3 := fun wx => refRoom_any s n wx hsec (by omega)
  rw [Lg.room_of, hleft] at S2
  generalize roomOf (n - s.sec) = rm at S2 S3
  rw [hnx] at S1
  obtain ⟨lf, ls, le, lg, ln, la⟩ := l
  obtain ⟨se, sg, sn, ss⟩ := s
  dsimp only at hnx S1
  subst hnx
  unfold Lg.v at S1 S2
  unfold Stt.v at S3
  unfold Lg.v Stt.v
  dsimp only at S1 S2 S3 ⊢
  have y1 : ((ln : Int) == (ln : Int)) = true := beq_self_eq_true _
  have y2 : (rm == rm) = true := beq_self_eq_true _
  clear hl hsec hleft
  go_enter Tryd.func20, Tryd.ntmps20
  go_wp2_with fail
  generalize hw3 : World.alloc (World.alloc w _) _ = v3
  obtain ⟨k2, k3, B⟩ := two_boxes_r (cs1 := [.int .i64 lf, .int .i64 ls, .int .u64 le, .int .u64 lg, .int .u64 ln, .int .i64 la]) (cs2 := [.int .u64 se, .int .u64 sg, .int .u64 ln, .int .i64 ss]) hw3
  clear hw3
  have g1 := fun x : Ext v3 => (k2.keep x.h).c6
  have g2 := fun x : Ext v3 => (k3.keep x.h).c4
  have g10 := fun x => (g1 x).1
  have g11 := fun x => (g1 x).2.1
  have g12 := fun x => (g1 x).2.2.1
  have g13 := fun x => (g1 x).2.2.2.1
  have g14 := fun x => (g1 x).2.2.2.2.1
  have g15 := fun x => (g1 x).2.2.2.2.2
  have g20 := fun x => (g2 x).1
  have g21 := fun x => (g2 x).2.1
  have g22 := fun x => (g2 x).2.2.1
  have g23 := fun x => (g2 x).2.2.2
  clear g1 g2
  have HS1 := hid S1
  have HS2 := hid S2
  have HS3 := hid S3
  clear S1 S2 S3
  (refine wp_region_ext (by kernel_rfl) (by kernel_rfl) ?_; (repeat (go_big_quiet_step ((first | with_reducible exact Ext.calls _ (HS1.out _) | with_reducible exact Ext.calls _ (HS2.out _) | with_reducible exact Ext.calls _ (HS3.out _))))); refine wpQuiet_nil ?_; rintro _ ⟨z, rfl⟩)
  have C := B.trans (z.h.mono B.size)
  go_wp2_with fail
  go_ret
  exact ⟨rfl, C⟩
end Go.Proofs.YtlokfndonjldpaaDoor
