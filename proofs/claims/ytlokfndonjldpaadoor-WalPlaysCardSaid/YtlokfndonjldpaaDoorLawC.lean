/- records of layer 12's laws, walked. Conditions: the records read. -/
import Derived.Test.YtlokfndonjldpaaDoorOpen
import Derived.Test.YtlokfndonjldpaaDoorRefOpen
import Derived.Test.YtlokfndonjldpaaDoorAct
import Derived.Deep.RegionLaw
set_option linter.unusedSimpArgs false
set_option linter.unusedVariables false
namespace Go.Proofs.YtlokfndonjldpaaDoor
open Go.RowKit

set_option maxRecDepth 100000 in
set_option maxHeartbeats 2000000 in
theorem records_any (N : Nat → Prop) (s : Sl) (R : List (Nat × List UInt8)) (w : World) (hr : RecR N w s R) (hm : s.n ≤ 1000) :
    Calls Tryd.prog 19 #[s.v] w fun e w' => ∃ sl : Sl, e = .returned sl.v ∧ RecR (fun _ => True) w' sl R ∧ Below w.heap.size w w' := by
  obtain ⟨A, n, c⟩ := s
  have he := hr.e
  have nc := hr.nc
  have cm := hr.cm
  obtain ⟨ws, h1, h2, h3⟩ := hr.r
  dsimp only at he nc cm h1 hm
  have hwl : ws.length = n := by
    have := congrArg List.length h3
    rw [List.length_map, List.length_map] at this
    omega
  have HWL := hid hwl
  have HE := hid he
  have H3 := hid h3
  clear hr hwl h3 he
  unfold Sl.v
  dsimp only
  go_enter Tryd.func19, Tryd.ntmps19
  go_wp2_with fail
  go_loopw [3, 4] (fun v i wr => ∃ k : Nat, k ≤ n ∧ i = .int .i64 k ∧ wr.ownsRow w.heap.size 105 2 v k ((ws.take k).flatMap recCs) ∧ Below w.heap.size w wr) (fun _ i _ => n - (intOf i).toNat)
  case atStart => exact ⟨0, Nat.zero_le _, rfl, World.ownsRow_nil _ _ _ _, Below.refl _ _⟩
  case round =>
    obtain ⟨k, hk, rfl, hown, hbel⟩ := hrel
    by_cases hlt : k < n
    · obtain ⟨b, off, x, rfl, hbb, hx, hcell⟩ := (h1.1.below hbel).el (f := recCs) recCs_len hlt (by omega)
      have c0 := hcell 0 _ rfl
      have c1 := hcell 1 _ rfl
      rw [Nat.add_zero] at c0
      clear hcell
      obtain ⟨xl, ⟨xA, xn, xc⟩⟩ := x
      have HX := hid hx
      unfold Sl.v at c1
      dsimp only at c0 c1
      clear hx
      have hd : Below wr.heap.size wr wr.drew := (Below.refl _ _).drew
      have own9 := own_below hown hd
      have hwz := hbel.size
      go_wp2_with fail
      go_region_law (refine step_appN rfl (.tmp 11) (.tmp 23) 50 rfl w.heap.size 105 _ 2 32 rrecT u3 k ((ws.take k).flatMap recCs) (own9.alloc _) (by simp [Act.eval, Act.put]) _ 1 1 [.int .u64 xl, .slice xA xn xc] (RL.new wr.drew _ _ _ 2 1 rfl) (by simp [Act.eval, Act.put]) (rec_one [(xl, ⟨xA, xn, xc⟩)]) (by unfold maxLen; omega) (by omega) (by simp; omega) ?_; intro v8 w8 hown8 r8 a8)
      all_goals (
        have hb8 := (hbel.trans ((hd.alloc (by exact Nat.le_refl _) (.cells #[.int .u64 xl, .slice xA xn xc] 105)).mono hbel.size)).grown r8 (by have := hbel.size; simp; omega) (fun q hq => (hown.lt q hq).1)
        have e8 : (ws.take k).flatMap recCs ++ [.int .u64 xl, .slice xA xn xc] = (ws.take (k + 1)).flatMap recCs := by
          rw [List.take_add_one, HX.out, List.flatMap_append]
          rfl
        rw [e8] at hown8
        clear e8 r8 a8
        (try (simp only [List.getElem_toArray, List.getElem_cons_succ, List.getElem_cons_zero]; go_frame; go_wp2_with fail; go_roundw))
        first
          | exact ⟨⟨k + 1, by omega, by go_num, hown8, hb8⟩, by simp [intOf]; omega⟩
          | (refine ⟨k + 1, by omega, by go_num, hown8, hb8⟩))
      all_goals (simp [intOf]; omega)
    · obtain rfl : k = n := by omega
      rw [List.take_of_length_le (by rw [HWL.out]; exact Nat.le_refl _)] at hown
      obtain ⟨A', c', rfl, _, hc1, hc2⟩ := own_formN hown
      go_wp2_with fail
      go_ret
      exact ⟨⟨A', k, c'⟩, rfl, ⟨HE.out, hc1, hc2, ws, RN.own hown fun _ _ => trivial, (h2.mono fun _ _ => trivial).keep hbel, H3.out⟩, hbel⟩
end Go.Proofs.YtlokfndonjldpaaDoor
