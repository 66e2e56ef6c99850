/- The reference's head, Room, walked. Conditions: those of each theorem. -/
import Derived.Test.YtlokfndonjldpaaDoorRefRec
import Derived.Test.YtlokfndonjldpaaDoorHead
set_option linter.unusedSimpArgs false
set_option linter.unusedVariables false
namespace Go.Proofs.YtlokfndonjldpaaDoor
open Go.RowKit

set_option maxRecDepth 100000 in
set_option maxHeartbeats 4000000 in
theorem refHead_any (A : Option Addr) (c : Nat) (s0 : List UInt8) (w : World) (hr : RB w A 128 s0) :
    Calls Tryd.prog 44 #[.slice A 128 c] w fun e w' => e = .returned (.tuple #[.int .u64 (hdrE s0), .int .u64 (hdrF s0), .bool (decide (hdrOk s0))]) ∧ Below w.heap.size w w' := by
  have hsl := hr.len
  have lE : hdrE s0 < 18446744073709551616 := by
    unfold hdrE
    have := num_lt ((s0.drop 4).take 8)
    rw [show ((s0.drop 4).take 8).length = 8 by simp [hsl]] at this
    exact this
  have lF : hdrF s0 < 18446744073709551616 := by
    unfold hdrF
    have := num_lt ((s0.drop 12).take 8)
    rw [show ((s0.drop 12).take 8).length = 8 by simp [hsl]] at this
    exact this
  have G1 := get_any A 128 c s0 4 8 w hr (by omega) (by omega) (by omega)
  have G2 := get_any A 128 c s0 12 8 w hr (by omega) (by omega) (by omega)
  have HG1 : Hid (num ((s0.drop 4).take 8) = hdrE s0) := hid rfl
  have HG2 : Hid (num ((s0.drop 12).take 8) = hdrF s0) := hid rfl
  rw [HG1.out] at G1
  rw [HG2.out] at G2
  have HOK0 : Hid (decide (hdrOk s0) = decide (hdrE s0 ≠ 0 ∧ hdrF s0 ≠ 0 ∧ s0 = hdr (hdrE s0) (hdrF s0))) := hid rfl
  clear HG1 HG2 hsl
  generalize hdrE s0 = ep at *
  generalize hdrF s0 = ft at *
  go_enter Tryd.func44, Tryd.ntmps44
  go_wp2_with fail
  refine G1.mono ?_
  rintro e w' ⟨rfl, rfl⟩
  go_wp2_with fail
  refine G2.mono ?_
  rintro e w' ⟨rfl, rfl⟩
  clear G1 G2
  go_wp2_with fail
  by_cases h1 : s0 = hdr ep ft
  · have Y1 : (s0 == hdr ep ft) = true := beq_iff_eq.2 h1
    by_cases h2 : ep = 0
    · have Y2 : Hid (decide (0 < ep) = false) := hid (decide_eq_false (by omega))
      have HOK : Hid (decide (hdrOk s0) = false) := hid (HOK0.out.trans (decide_eq_false (fun h => h.1 h2)))
      clear HOK0 h1 h2
      refine wp_region_head 31 20 [14, 15, 16, 17, 18, 19, 20, 21, 22, 23, 24, 25, 26, 27, 28, 29, 30, 2, 3, 4] [] ((fun kq => ([fun u w' => u = .int .u64 ep, fun u w' => u = .int .u64 ft, fun u w' => u = .slice A 128 c, fun u w' => u = str s0, fun u w' => u = .int .u64 ep, fun u w' => u = .int .u64 ft, fun u w' => ∃ (A' : Option Addr), ∃ (c' : Nat), u = .slice A' 128 c' ∧ RB w' A' 128 (hdr ep ft), fun u w' => u = str (hdr ep ft), fun u w' => u = .bool true, fun u w' => u = .bool true, fun u w' => u = .int .u64 ep, fun u w' => u = .bool false, fun u w' => u = .bool false, fun u w' => u = .bool false, fun u w' => u = undef, fun u w' => u = undef, fun u w' => u = .bool false, fun u w' => u = .int .u64 ep, fun u w' => u = .int .u64 ft, fun u w' => u = .bool false] : List (Value → World → Prop)).getD kq (fun _ _ => True))) (by kernel_rfl) rfl (by kernel_rfl) (.inl rfl) ?grow ?step ?tail
      case step =>
        simp only [List.take_succ_cons, List.take_zero]
        refine HSteps.cons ?_ ?_
        · intro f w' hb hU
          simp only [putAll, List.foldl_cons, List.foldl_nil]
          go_frame
          go_wp2_with fail
          exact ⟨rfl, _, rfl, Below.refl _ _, rfl⟩
        refine HSteps.cons ?_ ?_
        · intro f w' hb hU
          simp only [putAll, List.foldl_cons, List.foldl_nil]
          go_frame
          go_wp2_with fail
          exact ⟨rfl, _, rfl, Below.refl _ _, rfl⟩
        refine HSteps.cons ?_ ?_
        · intro f w' hb hU
          simp only [putAll, List.foldl_cons, List.foldl_nil]
          go_frame
          go_wp2_with fail
          exact ⟨rfl, _, rfl, Below.refl _ _, rfl⟩
        refine HSteps.cons ?_ ?_
        · intro f w' hb hU
          obtain u2 : f 16 = .slice A 128 c := hU.get ⟨2, .data⟩ (by simp) rfl
          have k1 := run_str (hr.below hb) 25 9 5 c Tryd.underlying25 Tryd.underlying5 Tryd.underlying9
          simp only [putAll, List.foldl_cons, List.foldl_nil]
          go_frame
          try simp only [u2]
          go_wp2_with fail
          exact ⟨rfl, _, rfl, Below.refl _ _, rfl⟩
        refine HSteps.cons ?_ ?_
        · intro f w' hb hU
          simp only [putAll, List.foldl_cons, List.foldl_nil]
          go_frame
          go_wp2_with fail
          exact ⟨rfl, _, rfl, Below.refl _ _, rfl⟩
        refine HSteps.cons ?_ ?_
        · intro f w' hb hU
          simp only [putAll, List.foldl_cons, List.foldl_nil]
          go_frame
          go_wp2_with fail
          exact ⟨rfl, _, rfl, Below.refl _ _, rfl⟩
        refine HSteps.cons ?_ ?_
        · intro f w' hb hU
          obtain u4 : f 18 = .int .u64 ep := hU.get ⟨4, .data⟩ (by simp) rfl
          obtain u5 : f 19 = .int .u64 ft := hU.get ⟨5, .data⟩ (by simp) rfl
          simp only [putAll, List.foldl_cons, List.foldl_nil]
          go_frame
          try simp only [u4, u5]
          go_wp2_with fail
          refine (refHeader_any ep ft w' lE lF).mono ?_
          rintro e w3 ⟨v3, rfl, hown3, b3⟩
          obtain ⟨A3, c3, rfl, hr3, _, _⟩ := own_form hown3
          go_wp2_with fail
          exact ⟨rfl, _, rfl, b3, A3, c3, rfl, hr3⟩
        refine HSteps.cons ?_ ?_
        · intro f w' hb hU
          obtain ⟨A', c', u6, v6_0⟩ : ∃ (A' : Option Addr), ∃ (c' : Nat), f 20 = .slice A' 128 c' ∧ RB w' A' 128 (hdr ep ft) := hU.get ⟨6, .data⟩ (by simp) rfl
          have k1 := run_str v6_0 25 9 5 c' Tryd.underlying25 Tryd.underlying5 Tryd.underlying9
          simp only [putAll, List.foldl_cons, List.foldl_nil]
          go_frame
          try simp only [u6]
          go_wp2_with fail
          exact ⟨rfl, _, rfl, Below.refl _ _, rfl⟩
        refine HSteps.cons ?_ ?_
        · intro f w' hb hU
          obtain u3 : f 17 = str s0 := hU.get ⟨3, .data⟩ (by simp) rfl
          obtain u7 : f 21 = str (hdr ep ft) := hU.get ⟨7, .data⟩ (by simp) rfl
          have y1 := Y1
          simp only [putAll, List.foldl_cons, List.foldl_nil]
          go_frame
          try simp only [u3, u7]
          go_wp2_with fail
          exact ⟨rfl, _, rfl, Below.refl _ _, rfl⟩
        refine HSteps.cons ?_ ?_
        · intro f w' hb hU
          obtain u8 : f 22 = .bool true := hU.get ⟨8, .data⟩ (by simp) rfl
          obtain ⟨A', c', u6, v6_0⟩ : ∃ (A' : Option Addr), ∃ (c' : Nat), f 20 = .slice A' 128 c' ∧ RB w' A' 128 (hdr ep ft) := hU.get ⟨6, .chain⟩ (by simp) rfl
          simp only [putAll, List.foldl_cons, List.foldl_nil]
          go_frame
          try simp only [u8, u6]
          go_wp2_with fail
          exact ⟨rfl, _, rfl, Below.refl _ _, rfl⟩
        refine HSteps.cons ?_ ?_
        · intro f w' hb hU
          obtain u9 : f 23 = .bool true := hU.get ⟨9, .guard⟩ (by simp) rfl
          simp only [putAll, List.foldl_cons, List.foldl_nil]
          go_frame
          try simp only [u9]
          go_wp2_with fail
          exact ⟨rfl, _, rfl, Below.refl _ _, rfl⟩
        refine HSteps.cons ?_ ?_
        · intro f w' hb hU
          obtain u10 : f 24 = .int .u64 ep := hU.get ⟨10, .data⟩ (by simp) rfl
          obtain u9 : f 23 = .bool true := hU.get ⟨9, .guard⟩ (by simp) rfl
          simp only [putAll, List.foldl_cons, List.foldl_nil]
          go_frame
          try simp only [u10, u9]
          go_wp2_with fail
          exact ⟨rfl, _, rfl, Below.refl _ _, congrArg Value.bool Y2.out⟩
        refine HSteps.cons ?_ ?_
        · intro f w' hb hU
          obtain u9 : f 23 = .bool true := hU.get ⟨9, .data⟩ (by simp) rfl
          obtain u11 : f 25 = .bool false := hU.get ⟨11, .data⟩ (by simp) rfl
          simp only [putAll, List.foldl_cons, List.foldl_nil]
          go_frame
          try simp only [u9, u11]
          go_wp2_with fail
          exact ⟨rfl, _, rfl, Below.refl _ _, rfl⟩
        refine HSteps.cons ?_ ?_
        · intro f w' hb hU
          obtain u12 : f 26 = .bool false := hU.get ⟨12, .data⟩ (by simp) rfl
          obtain u9 : f 23 = .bool true := hU.get ⟨9, .chain⟩ (by simp) rfl
          simp only [putAll, List.foldl_cons, List.foldl_nil]
          go_frame
          try simp only [u12, u9]
          go_wp2_with fail
          exact ⟨rfl, _, rfl, Below.refl _ _, rfl⟩
        refine HSteps.cons ?_ ?_
        · intro f w' hb hU
          obtain u13 : f 27 = .bool false := hU.get ⟨13, .guard⟩ (by simp) rfl
          simp only [putAll, List.foldl_cons, List.foldl_nil]
          go_frame
          try simp only [u13]
          go_wp2_with fail
          exact ⟨rfl, _, rfl, Below.refl _ _, rfl⟩
        refine HSteps.cons ?_ ?_
        · intro f w' hb hU
          obtain u14 : f 28 = undef := hU.get ⟨14, .data⟩ (by simp) rfl
          obtain u13 : f 27 = .bool false := hU.get ⟨13, .guard⟩ (by simp) rfl
          simp only [putAll, List.foldl_cons, List.foldl_nil]
          go_frame
          try simp only [u14, u13]
          go_wp2_with fail
          exact ⟨rfl, _, rfl, Below.refl _ _, rfl⟩
        refine HSteps.cons ?_ ?_
        · intro f w' hb hU
          obtain u13 : f 27 = .bool false := hU.get ⟨13, .data⟩ (by simp) rfl
          obtain u15 : f 29 = undef := hU.get ⟨15, .data⟩ (by simp) rfl
          simp only [putAll, List.foldl_cons, List.foldl_nil]
          go_frame
          try simp only [u13, u15]
          go_wp2_with fail
          exact ⟨rfl, _, rfl, Below.refl _ _, rfl⟩
        refine HSteps.cons ?_ ?_
        · intro f w' hb hU
          obtain u0 : f 14 = .int .u64 ep := hU.get ⟨0, .data⟩ (by simp) rfl
          obtain u13 : f 27 = .bool false := hU.get ⟨13, .chain⟩ (by simp) rfl
          simp only [putAll, List.foldl_cons, List.foldl_nil]
          go_frame
          try simp only [u0, u13]
          go_wp2_with fail
          exact ⟨rfl, _, rfl, Below.refl _ _, rfl⟩
        refine HSteps.cons ?_ ?_
        · intro f w' hb hU
          obtain u1 : f 15 = .int .u64 ft := hU.get ⟨1, .data⟩ (by simp) rfl
          obtain u17 : f 2 = .int .u64 ep := hU.get ⟨17, .chain⟩ (by simp) rfl
          obtain u0 : f 14 = .int .u64 ep := hU.get ⟨0, .phase⟩ (by simp) rfl
          simp only [putAll, List.foldl_cons, List.foldl_nil]
          go_frame
          try simp only [u1, u17, u0]
          go_wp2_with fail
          exact ⟨rfl, _, rfl, Below.refl _ _, rfl⟩
        refine HSteps.cons ?_ ?_
        · intro f w' hb hU
          obtain u16 : f 30 = .bool false := hU.get ⟨16, .data⟩ (by simp) rfl
          obtain u18 : f 3 = .int .u64 ft := hU.get ⟨18, .chain⟩ (by simp) rfl
          obtain u0 : f 14 = .int .u64 ep := hU.get ⟨0, .phase⟩ (by simp) rfl
          obtain u1 : f 15 = .int .u64 ft := hU.get ⟨1, .phase⟩ (by simp) rfl
          obtain u2 : f 16 = .slice A 128 c := hU.get ⟨2, .phase⟩ (by simp) rfl
          obtain u3 : f 17 = str s0 := hU.get ⟨3, .phase⟩ (by simp) rfl
          obtain u4 : f 18 = .int .u64 ep := hU.get ⟨4, .phase⟩ (by simp) rfl
          obtain u5 : f 19 = .int .u64 ft := hU.get ⟨5, .phase⟩ (by simp) rfl
          obtain ⟨A', c', u6, v6_0⟩ : ∃ (A' : Option Addr), ∃ (c' : Nat), f 20 = .slice A' 128 c' ∧ RB w' A' 128 (hdr ep ft) := hU.get ⟨6, .phase⟩ (by simp) rfl
          obtain u7 : f 21 = str (hdr ep ft) := hU.get ⟨7, .phase⟩ (by simp) rfl
          obtain u8 : f 22 = .bool true := hU.get ⟨8, .phase⟩ (by simp) rfl
          obtain u9 : f 23 = .bool true := hU.get ⟨9, .phase⟩ (by simp) rfl
          obtain u10 : f 24 = .int .u64 ep := hU.get ⟨10, .phase⟩ (by simp) rfl
          obtain u11 : f 25 = .bool false := hU.get ⟨11, .phase⟩ (by simp) rfl
          obtain u12 : f 26 = .bool false := hU.get ⟨12, .phase⟩ (by simp) rfl
          obtain u13 : f 27 = .bool false := hU.get ⟨13, .phase⟩ (by simp) rfl
          obtain u14 : f 28 = undef := hU.get ⟨14, .phase⟩ (by simp) rfl
          obtain u15 : f 29 = undef := hU.get ⟨15, .phase⟩ (by simp) rfl
          obtain u17 : f 2 = .int .u64 ep := hU.get ⟨17, .phase⟩ (by simp) rfl
          simp only [putAll, List.foldl_cons, List.foldl_nil]
          go_frame
          try simp only [u16, u18, u0, u1, u2, u3, u4, u5, u6, u7, u8, u9, u10, u11, u12, u13, u14, u15, u17]
          go_wp2_with fail
          exact ⟨rfl, _, rfl, Below.refl _ _, rfl⟩
        exact HSteps.nil
      case grow =>
        intro kq u wa wb hb hu
        rcases kq with _ | _ | _ | _ | _ | _ | _ | _ | _ | _ | _ | _ | _ | _ | _ | _ | _ | _ | _ | _ | kq
        · exact hu
        · exact hu
        · exact hu
        · exact hu
        · exact hu
        · exact hu
        · obtain ⟨A', c', ue, uf0⟩ := hu
          exact ⟨A', c', ue, uf0.below hb⟩
        · exact hu
        · exact hu
        · exact hu
        · exact hu
        · exact hu
        · exact hu
        · exact hu
        · exact hu
        · exact hu
        · exact hu
        · exact hu
        · exact hu
        · exact hu
        · trivial
      case tail =>
        intro f w7 hb7 hU
        obtain u0 : f 14 = .int .u64 ep := hU.get 0 (by decide)
        obtain u1 : f 15 = .int .u64 ft := hU.get 1 (by decide)
        obtain u2 : f 16 = .slice A 128 c := hU.get 2 (by decide)
        obtain u3 : f 17 = str s0 := hU.get 3 (by decide)
        obtain u4 : f 18 = .int .u64 ep := hU.get 4 (by decide)
        obtain u5 : f 19 = .int .u64 ft := hU.get 5 (by decide)
        obtain ⟨A', c', u6, v6_0⟩ : ∃ (A' : Option Addr), ∃ (c' : Nat), f 20 = .slice A' 128 c' ∧ RB w7 A' 128 (hdr ep ft) := hU.get 6 (by decide)
        obtain u7 : f 21 = str (hdr ep ft) := hU.get 7 (by decide)
        obtain u8 : f 22 = .bool true := hU.get 8 (by decide)
        obtain u9 : f 23 = .bool true := hU.get 9 (by decide)
        obtain u10 : f 24 = .int .u64 ep := hU.get 10 (by decide)
        obtain u11 : f 25 = .bool false := hU.get 11 (by decide)
        obtain u12 : f 26 = .bool false := hU.get 12 (by decide)
        obtain u13 : f 27 = .bool false := hU.get 13 (by decide)
        obtain u14 : f 28 = undef := hU.get 14 (by decide)
        obtain u15 : f 29 = undef := hU.get 15 (by decide)
        obtain u16 : f 30 = .bool false := hU.get 16 (by decide)
        obtain u17 : f 2 = .int .u64 ep := hU.get 17 (by decide)
        obtain u18 : f 3 = .int .u64 ft := hU.get 18 (by decide)
        obtain u19 : f 4 = .bool false := hU.get 19 (by decide)
        simp only [List.drop_succ_cons, List.drop_zero, putAll, List.foldl_cons, List.foldl_nil]
        go_frame
        simp only [u0, u1, u2, u3, u4, u5, u6, u7, u8, u9, u10, u11, u12, u13, u14, u15, u16, u17, u18, u19]
        clear u0 u1 u2 u3 u4 u5 u6 u7 u8 u9 u10 u11 u12 u13 u14 u15 u16 u17 u18 u19
        clear hU
        go_wp2_with fail
        go_ret3
        exact ⟨by rw [HOK.out]; rfl, hb7⟩
    · have Y2 : Hid (decide (0 < ep) = true) := hid (decide_eq_true (by omega))
      by_cases h3 : ft = 0
      · have Y3 : Hid (decide (0 < ft) = false) := hid (decide_eq_false (by omega))
        have HOK : Hid (decide (hdrOk s0) = false) := hid (HOK0.out.trans (decide_eq_false (fun h => h.2.1 h3)))
        clear HOK0 h1 h2 h3
        refine wp_region_head 31 20 [14, 15, 16, 17, 18, 19, 20, 21, 22, 23, 24, 25, 26, 27, 28, 29, 30, 2, 3, 4] [] ((fun kq => ([fun u w' => u = .int .u64 ep, fun u w' => u = .int .u64 ft, fun u w' => u = .slice A 128 c, fun u w' => u = str s0, fun u w' => u = .int .u64 ep, fun u w' => u = .int .u64 ft, fun u w' => ∃ (A' : Option Addr), ∃ (c' : Nat), u = .slice A' 128 c' ∧ RB w' A' 128 (hdr ep ft), fun u w' => u = str (hdr ep ft), fun u w' => u = .bool true, fun u w' => u = .bool true, fun u w' => u = .int .u64 ep, fun u w' => u = .bool true, fun u w' => u = .bool true, fun u w' => u = .bool true, fun u w' => u = .int .u64 ft, fun u w' => u = .bool false, fun u w' => u = .bool false, fun u w' => u = .int .u64 ep, fun u w' => u = .int .u64 ft, fun u w' => u = .bool false] : List (Value → World → Prop)).getD kq (fun _ _ => True))) (by kernel_rfl) rfl (by kernel_rfl) (.inl rfl) ?grow ?step ?tail
        case step =>
          simp only [List.take_succ_cons, List.take_zero]
          refine HSteps.cons ?_ ?_
          · intro f w' hb hU
            simp only [putAll, List.foldl_cons, List.foldl_nil]
            go_frame
            go_wp2_with fail
            exact ⟨rfl, _, rfl, Below.refl _ _, rfl⟩
          refine HSteps.cons ?_ ?_
          · intro f w' hb hU
            simp only [putAll, List.foldl_cons, List.foldl_nil]
            go_frame
            go_wp2_with fail
            exact ⟨rfl, _, rfl, Below.refl _ _, rfl⟩
          refine HSteps.cons ?_ ?_
          · intro f w' hb hU
            simp only [putAll, List.foldl_cons, List.foldl_nil]
            go_frame
            go_wp2_with fail
            exact ⟨rfl, _, rfl, Below.refl _ _, rfl⟩
          refine HSteps.cons ?_ ?_
          · intro f w' hb hU
            obtain u2 : f 16 = .slice A 128 c := hU.get ⟨2, .data⟩ (by simp) rfl
            have k1 := run_str (hr.below hb) 25 9 5 c Tryd.underlying25 Tryd.underlying5 Tryd.underlying9
            simp only [putAll, List.foldl_cons, List.foldl_nil]
            go_frame
            try simp only [u2]
            go_wp2_with fail
            exact ⟨rfl, _, rfl, Below.refl _ _, rfl⟩
          refine HSteps.cons ?_ ?_
          · intro f w' hb hU
            simp only [putAll, List.foldl_cons, List.foldl_nil]
            go_frame
            go_wp2_with fail
            exact ⟨rfl, _, rfl, Below.refl _ _, rfl⟩
          refine HSteps.cons ?_ ?_
          · intro f w' hb hU
            simp only [putAll, List.foldl_cons, List.foldl_nil]
            go_frame
            go_wp2_with fail
            exact ⟨rfl, _, rfl, Below.refl _ _, rfl⟩
          refine HSteps.cons ?_ ?_
          · intro f w' hb hU
            obtain u4 : f 18 = .int .u64 ep := hU.get ⟨4, .data⟩ (by simp) rfl
            obtain u5 : f 19 = .int .u64 ft := hU.get ⟨5, .data⟩ (by simp) rfl
            simp only [putAll, List.foldl_cons, List.foldl_nil]
            go_frame
            try simp only [u4, u5]
            go_wp2_with fail
            refine (refHeader_any ep ft w' lE lF).mono ?_
            rintro e w3 ⟨v3, rfl, hown3, b3⟩
            obtain ⟨A3, c3, rfl, hr3, _, _⟩ := own_form hown3
            go_wp2_with fail
            exact ⟨rfl, _, rfl, b3, A3, c3, rfl, hr3⟩
          refine HSteps.cons ?_ ?_
          · intro f w' hb hU
            obtain ⟨A', c', u6, v6_0⟩ : ∃ (A' : Option Addr), ∃ (c' : Nat), f 20 = .slice A' 128 c' ∧ RB w' A' 128 (hdr ep ft) := hU.get ⟨6, .data⟩ (by simp) rfl
            have k1 := run_str v6_0 25 9 5 c' Tryd.underlying25 Tryd.underlying5 Tryd.underlying9
            simp only [putAll, List.foldl_cons, List.foldl_nil]
            go_frame
            try simp only [u6]
            go_wp2_with fail
            exact ⟨rfl, _, rfl, Below.refl _ _, rfl⟩
          refine HSteps.cons ?_ ?_
          · intro f w' hb hU
            obtain u3 : f 17 = str s0 := hU.get ⟨3, .data⟩ (by simp) rfl
            obtain u7 : f 21 = str (hdr ep ft) := hU.get ⟨7, .data⟩ (by simp) rfl
            have y1 := Y1
            simp only [putAll, List.foldl_cons, List.foldl_nil]
            go_frame
            try simp only [u3, u7]
            go_wp2_with fail
            exact ⟨rfl, _, rfl, Below.refl _ _, rfl⟩
          refine HSteps.cons ?_ ?_
          · intro f w' hb hU
            obtain u8 : f 22 = .bool true := hU.get ⟨8, .data⟩ (by simp) rfl
            obtain ⟨A', c', u6, v6_0⟩ : ∃ (A' : Option Addr), ∃ (c' : Nat), f 20 = .slice A' 128 c' ∧ RB w' A' 128 (hdr ep ft) := hU.get ⟨6, .chain⟩ (by simp) rfl
            simp only [putAll, List.foldl_cons, List.foldl_nil]
            go_frame
            try simp only [u8, u6]
            go_wp2_with fail
            exact ⟨rfl, _, rfl, Below.refl _ _, rfl⟩
          refine HSteps.cons ?_ ?_
          · intro f w' hb hU
            obtain u9 : f 23 = .bool true := hU.get ⟨9, .guard⟩ (by simp) rfl
            simp only [putAll, List.foldl_cons, List.foldl_nil]
            go_frame
            try simp only [u9]
            go_wp2_with fail
            exact ⟨rfl, _, rfl, Below.refl _ _, rfl⟩
          refine HSteps.cons ?_ ?_
          · intro f w' hb hU
            obtain u10 : f 24 = .int .u64 ep := hU.get ⟨10, .data⟩ (by simp) rfl
            obtain u9 : f 23 = .bool true := hU.get ⟨9, .guard⟩ (by simp) rfl
            simp only [putAll, List.foldl_cons, List.foldl_nil]
            go_frame
            try simp only [u10, u9]
            go_wp2_with fail
            exact ⟨rfl, _, rfl, Below.refl _ _, congrArg Value.bool Y2.out⟩
          refine HSteps.cons ?_ ?_
          · intro f w' hb hU
            obtain u9 : f 23 = .bool true := hU.get ⟨9, .data⟩ (by simp) rfl
            obtain u11 : f 25 = .bool true := hU.get ⟨11, .data⟩ (by simp) rfl
            simp only [putAll, List.foldl_cons, List.foldl_nil]
            go_frame
            try simp only [u9, u11]
            go_wp2_with fail
            exact ⟨rfl, _, rfl, Below.refl _ _, rfl⟩
          refine HSteps.cons ?_ ?_
          · intro f w' hb hU
            obtain u12 : f 26 = .bool true := hU.get ⟨12, .data⟩ (by simp) rfl
            obtain u9 : f 23 = .bool true := hU.get ⟨9, .chain⟩ (by simp) rfl
            simp only [putAll, List.foldl_cons, List.foldl_nil]
            go_frame
            try simp only [u12, u9]
            go_wp2_with fail
            exact ⟨rfl, _, rfl, Below.refl _ _, rfl⟩
          refine HSteps.cons ?_ ?_
          · intro f w' hb hU
            obtain u13 : f 27 = .bool true := hU.get ⟨13, .guard⟩ (by simp) rfl
            simp only [putAll, List.foldl_cons, List.foldl_nil]
            go_frame
            try simp only [u13]
            go_wp2_with fail
            exact ⟨rfl, _, rfl, Below.refl _ _, rfl⟩
          refine HSteps.cons ?_ ?_
          · intro f w' hb hU
            obtain u14 : f 28 = .int .u64 ft := hU.get ⟨14, .data⟩ (by simp) rfl
            obtain u13 : f 27 = .bool true := hU.get ⟨13, .guard⟩ (by simp) rfl
            simp only [putAll, List.foldl_cons, List.foldl_nil]
            go_frame
            try simp only [u14, u13]
            go_wp2_with fail
            exact ⟨rfl, _, rfl, Below.refl _ _, congrArg Value.bool Y3.out⟩
          refine HSteps.cons ?_ ?_
          · intro f w' hb hU
            obtain u13 : f 27 = .bool true := hU.get ⟨13, .data⟩ (by simp) rfl
            obtain u15 : f 29 = .bool false := hU.get ⟨15, .data⟩ (by simp) rfl
            simp only [putAll, List.foldl_cons, List.foldl_nil]
            go_frame
            try simp only [u13, u15]
            go_wp2_with fail
            exact ⟨rfl, _, rfl, Below.refl _ _, rfl⟩
          refine HSteps.cons ?_ ?_
          · intro f w' hb hU
            obtain u0 : f 14 = .int .u64 ep := hU.get ⟨0, .data⟩ (by simp) rfl
            obtain u13 : f 27 = .bool true := hU.get ⟨13, .chain⟩ (by simp) rfl
            simp only [putAll, List.foldl_cons, List.foldl_nil]
            go_frame
            try simp only [u0, u13]
            go_wp2_with fail
            exact ⟨rfl, _, rfl, Below.refl _ _, rfl⟩
          refine HSteps.cons ?_ ?_
          · intro f w' hb hU
            obtain u1 : f 15 = .int .u64 ft := hU.get ⟨1, .data⟩ (by simp) rfl
            obtain u17 : f 2 = .int .u64 ep := hU.get ⟨17, .chain⟩ (by simp) rfl
            obtain u0 : f 14 = .int .u64 ep := hU.get ⟨0, .phase⟩ (by simp) rfl
            simp only [putAll, List.foldl_cons, List.foldl_nil]
            go_frame
            try simp only [u1, u17, u0]
            go_wp2_with fail
            exact ⟨rfl, _, rfl, Below.refl _ _, rfl⟩
          refine HSteps.cons ?_ ?_
          · intro f w' hb hU
            obtain u16 : f 30 = .bool false := hU.get ⟨16, .data⟩ (by simp) rfl
            obtain u18 : f 3 = .int .u64 ft := hU.get ⟨18, .chain⟩ (by simp) rfl
            obtain u0 : f 14 = .int .u64 ep := hU.get ⟨0, .phase⟩ (by simp) rfl
            obtain u1 : f 15 = .int .u64 ft := hU.get ⟨1, .phase⟩ (by simp) rfl
            obtain u2 : f 16 = .slice A 128 c := hU.get ⟨2, .phase⟩ (by simp) rfl
            obtain u3 : f 17 = str s0 := hU.get ⟨3, .phase⟩ (by simp) rfl
            obtain u4 : f 18 = .int .u64 ep := hU.get ⟨4, .phase⟩ (by simp) rfl
            obtain u5 : f 19 = .int .u64 ft := hU.get ⟨5, .phase⟩ (by simp) rfl
            obtain ⟨A', c', u6, v6_0⟩ : ∃ (A' : Option Addr), ∃ (c' : Nat), f 20 = .slice A' 128 c' ∧ RB w' A' 128 (hdr ep ft) := hU.get ⟨6, .phase⟩ (by simp) rfl
            obtain u7 : f 21 = str (hdr ep ft) := hU.get ⟨7, .phase⟩ (by simp) rfl
            obtain u8 : f 22 = .bool true := hU.get ⟨8, .phase⟩ (by simp) rfl
            obtain u9 : f 23 = .bool true := hU.get ⟨9, .phase⟩ (by simp) rfl
            obtain u10 : f 24 = .int .u64 ep := hU.get ⟨10, .phase⟩ (by simp) rfl
            obtain u11 : f 25 = .bool true := hU.get ⟨11, .phase⟩ (by simp) rfl
            obtain u12 : f 26 = .bool true := hU.get ⟨12, .phase⟩ (by simp) rfl
            obtain u13 : f 27 = .bool true := hU.get ⟨13, .phase⟩ (by simp) rfl
            obtain u14 : f 28 = .int .u64 ft := hU.get ⟨14, .phase⟩ (by simp) rfl
            obtain u15 : f 29 = .bool false := hU.get ⟨15, .phase⟩ (by simp) rfl
            obtain u17 : f 2 = .int .u64 ep := hU.get ⟨17, .phase⟩ (by simp) rfl
            simp only [putAll, List.foldl_cons, List.foldl_nil]
            go_frame
            try simp only [u16, u18, u0, u1, u2, u3, u4, u5, u6, u7, u8, u9, u10, u11, u12, u13, u14, u15, u17]
            go_wp2_with fail
            exact ⟨rfl, _, rfl, Below.refl _ _, rfl⟩
          exact HSteps.nil
        case grow =>
          intro kq u wa wb hb hu
          rcases kq with _ | _ | _ | _ | _ | _ | _ | _ | _ | _ | _ | _ | _ | _ | _ | _ | _ | _ | _ | _ | kq
          · exact hu
          · exact hu
          · exact hu
          · exact hu
          · exact hu
          · exact hu
          · obtain ⟨A', c', ue, uf0⟩ := hu
            exact ⟨A', c', ue, uf0.below hb⟩
          · exact hu
          · exact hu
          · exact hu
          · exact hu
          · exact hu
          · exact hu
          · exact hu
          · exact hu
          · exact hu
          · exact hu
          · exact hu
          · exact hu
          · exact hu
          · trivial
        case tail =>
          intro f w7 hb7 hU
          obtain u0 : f 14 = .int .u64 ep := hU.get 0 (by decide)
          obtain u1 : f 15 = .int .u64 ft := hU.get 1 (by decide)
          obtain u2 : f 16 = .slice A 128 c := hU.get 2 (by decide)
          obtain u3 : f 17 = str s0 := hU.get 3 (by decide)
          obtain u4 : f 18 = .int .u64 ep := hU.get 4 (by decide)
          obtain u5 : f 19 = .int .u64 ft := hU.get 5 (by decide)
          obtain ⟨A', c', u6, v6_0⟩ : ∃ (A' : Option Addr), ∃ (c' : Nat), f 20 = .slice A' 128 c' ∧ RB w7 A' 128 (hdr ep ft) := hU.get 6 (by decide)
          obtain u7 : f 21 = str (hdr ep ft) := hU.get 7 (by decide)
          obtain u8 : f 22 = .bool true := hU.get 8 (by decide)
          obtain u9 : f 23 = .bool true := hU.get 9 (by decide)
          obtain u10 : f 24 = .int .u64 ep := hU.get 10 (by decide)
          obtain u11 : f 25 = .bool true := hU.get 11 (by decide)
          obtain u12 : f 26 = .bool true := hU.get 12 (by decide)
          obtain u13 : f 27 = .bool true := hU.get 13 (by decide)
          obtain u14 : f 28 = .int .u64 ft := hU.get 14 (by decide)
          obtain u15 : f 29 = .bool false := hU.get 15 (by decide)
          obtain u16 : f 30 = .bool false := hU.get 16 (by decide)
          obtain u17 : f 2 = .int .u64 ep := hU.get 17 (by decide)
          obtain u18 : f 3 = .int .u64 ft := hU.get 18 (by decide)
          obtain u19 : f 4 = .bool false := hU.get 19 (by decide)
          simp only [List.drop_succ_cons, List.drop_zero, putAll, List.foldl_cons, List.foldl_nil]
          go_frame
          simp only [u0, u1, u2, u3, u4, u5, u6, u7, u8, u9, u10, u11, u12, u13, u14, u15, u16, u17, u18, u19]
          clear u0 u1 u2 u3 u4 u5 u6 u7 u8 u9 u10 u11 u12 u13 u14 u15 u16 u17 u18 u19
          clear hU
          go_wp2_with fail
          go_ret3
          exact ⟨by rw [HOK.out]; rfl, hb7⟩
      · have Y3 : Hid (decide (0 < ft) = true) := hid (decide_eq_true (by omega))
        have HOK : Hid (decide (hdrOk s0) = true) := hid (HOK0.out.trans (decide_eq_true ⟨h2, h3, h1⟩))
        clear HOK0 h1 h2 h3
        refine wp_region_head 31 20 [14, 15, 16, 17, 18, 19, 20, 21, 22, 23, 24, 25, 26, 27, 28, 29, 30, 2, 3, 4] [] ((fun kq => ([fun u w' => u = .int .u64 ep, fun u w' => u = .int .u64 ft, fun u w' => u = .slice A 128 c, fun u w' => u = str s0, fun u w' => u = .int .u64 ep, fun u w' => u = .int .u64 ft, fun u w' => ∃ (A' : Option Addr), ∃ (c' : Nat), u = .slice A' 128 c' ∧ RB w' A' 128 (hdr ep ft), fun u w' => u = str (hdr ep ft), fun u w' => u = .bool true, fun u w' => u = .bool true, fun u w' => u = .int .u64 ep, fun u w' => u = .bool true, fun u w' => u = .bool true, fun u w' => u = .bool true, fun u w' => u = .int .u64 ft, fun u w' => u = .bool true, fun u w' => u = .bool true, fun u w' => u = .int .u64 ep, fun u w' => u = .int .u64 ft, fun u w' => u = .bool true] : List (Value → World → Prop)).getD kq (fun _ _ => True))) (by kernel_rfl) rfl (by kernel_rfl) (.inl rfl) ?grow ?step ?tail
        case step =>
          simp only [List.take_succ_cons, List.take_zero]
          refine HSteps.cons ?_ ?_
          · intro f w' hb hU
            simp only [putAll, List.foldl_cons, List.foldl_nil]
            go_frame
            go_wp2_with fail
            exact ⟨rfl, _, rfl, Below.refl _ _, rfl⟩
          refine HSteps.cons ?_ ?_
          · intro f w' hb hU
            simp only [putAll, List.foldl_cons, List.foldl_nil]
            go_frame
            go_wp2_with fail
            exact ⟨rfl, _, rfl, Below.refl _ _, rfl⟩
          refine HSteps.cons ?_ ?_
          · intro f w' hb hU
            simp only [putAll, List.foldl_cons, List.foldl_nil]
            go_frame
            go_wp2_with fail
            exact ⟨rfl, _, rfl, Below.refl _ _, rfl⟩
          refine HSteps.cons ?_ ?_
          · intro f w' hb hU
            obtain u2 : f 16 = .slice A 128 c := hU.get ⟨2, .data⟩ (by simp) rfl
            have k1 := run_str (hr.below hb) 25 9 5 c Tryd.underlying25 Tryd.underlying5 Tryd.underlying9
            simp only [putAll, List.foldl_cons, List.foldl_nil]
            go_frame
            try simp only [u2]
            go_wp2_with fail
            exact ⟨rfl, _, rfl, Below.refl _ _, rfl⟩
          refine HSteps.cons ?_ ?_
          · intro f w' hb hU
            simp only [putAll, List.foldl_cons, List.foldl_nil]
            go_frame
            go_wp2_with fail
            exact ⟨rfl, _, rfl, Below.refl _ _, rfl⟩
          refine HSteps.cons ?_ ?_
          · intro f w' hb hU
            simp only [putAll, List.foldl_cons, List.foldl_nil]
            go_frame
            go_wp2_with fail
            exact ⟨rfl, _, rfl, Below.refl _ _, rfl⟩
          refine HSteps.cons ?_ ?_
          · intro f w' hb hU
            obtain u4 : f 18 = .int .u64 ep := hU.get ⟨4, .data⟩ (by simp) rfl
            obtain u5 : f 19 = .int .u64 ft := hU.get ⟨5, .data⟩ (by simp) rfl
            simp only [putAll, List.foldl_cons, List.foldl_nil]
            go_frame
            try simp only [u4, u5]
            go_wp2_with fail
            refine (refHeader_any ep ft w' lE lF).mono ?_
            rintro e w3 ⟨v3, rfl, hown3, b3⟩
            obtain ⟨A3, c3, rfl, hr3, _, _⟩ := own_form hown3
            go_wp2_with fail
            exact ⟨rfl, _, rfl, b3, A3, c3, rfl, hr3⟩
          refine HSteps.cons ?_ ?_
          · intro f w' hb hU
            obtain ⟨A', c', u6, v6_0⟩ : ∃ (A' : Option Addr), ∃ (c' : Nat), f 20 = .slice A' 128 c' ∧ RB w' A' 128 (hdr ep ft) := hU.get ⟨6, .data⟩ (by simp) rfl
            have k1 := run_str v6_0 25 9 5 c' Tryd.underlying25 Tryd.underlying5 Tryd.underlying9
            simp only [putAll, List.foldl_cons, List.foldl_nil]
            go_frame
            try simp only [u6]
            go_wp2_with fail
            exact ⟨rfl, _, rfl, Below.refl _ _, rfl⟩
          refine HSteps.cons ?_ ?_
          · intro f w' hb hU
            obtain u3 : f 17 = str s0 := hU.get ⟨3, .data⟩ (by simp) rfl
            obtain u7 : f 21 = str (hdr ep ft) := hU.get ⟨7, .data⟩ (by simp) rfl
            have y1 := Y1
            simp only [putAll, List.foldl_cons, List.foldl_nil]
            go_frame
            try simp only [u3, u7]
            go_wp2_with fail
            exact ⟨rfl, _, rfl, Below.refl _ _, rfl⟩
          refine HSteps.cons ?_ ?_
          · intro f w' hb hU
            obtain u8 : f 22 = .bool true := hU.get ⟨8, .data⟩ (by simp) rfl
            obtain ⟨A', c', u6, v6_0⟩ : ∃ (A' : Option Addr), ∃ (c' : Nat), f 20 = .slice A' 128 c' ∧ RB w' A' 128 (hdr ep ft) := hU.get ⟨6, .chain⟩ (by simp) rfl
            simp only [putAll, List.foldl_cons, List.foldl_nil]
            go_frame
            try simp only [u8, u6]
            go_wp2_with fail
            exact ⟨rfl, _, rfl, Below.refl _ _, rfl⟩
          refine HSteps.cons ?_ ?_
          · intro f w' hb hU
            obtain u9 : f 23 = .bool true := hU.get ⟨9, .guard⟩ (by simp) rfl
            simp only [putAll, List.foldl_cons, List.foldl_nil]
            go_frame
            try simp only [u9]
            go_wp2_with fail
            exact ⟨rfl, _, rfl, Below.refl _ _, rfl⟩
          refine HSteps.cons ?_ ?_
          · intro f w' hb hU
            obtain u10 : f 24 = .int .u64 ep := hU.get ⟨10, .data⟩ (by simp) rfl
            obtain u9 : f 23 = .bool true := hU.get ⟨9, .guard⟩ (by simp) rfl
            simp only [putAll, List.foldl_cons, List.foldl_nil]
            go_frame
            try simp only [u10, u9]
            go_wp2_with fail
            exact ⟨rfl, _, rfl, Below.refl _ _, congrArg Value.bool Y2.out⟩
          refine HSteps.cons ?_ ?_
          · intro f w' hb hU
            obtain u9 : f 23 = .bool true := hU.get ⟨9, .data⟩ (by simp) rfl
            obtain u11 : f 25 = .bool true := hU.get ⟨11, .data⟩ (by simp) rfl
            simp only [putAll, List.foldl_cons, List.foldl_nil]
            go_frame
            try simp only [u9, u11]
            go_wp2_with fail
            exact ⟨rfl, _, rfl, Below.refl _ _, rfl⟩
          refine HSteps.cons ?_ ?_
          · intro f w' hb hU
            obtain u12 : f 26 = .bool true := hU.get ⟨12, .data⟩ (by simp) rfl
            obtain u9 : f 23 = .bool true := hU.get ⟨9, .chain⟩ (by simp) rfl
            simp only [putAll, List.foldl_cons, List.foldl_nil]
            go_frame
            try simp only [u12, u9]
            go_wp2_with fail
            exact ⟨rfl, _, rfl, Below.refl _ _, rfl⟩
          refine HSteps.cons ?_ ?_
          · intro f w' hb hU
            obtain u13 : f 27 = .bool true := hU.get ⟨13, .guard⟩ (by simp) rfl
            simp only [putAll, List.foldl_cons, List.foldl_nil]
            go_frame
            try simp only [u13]
            go_wp2_with fail
            exact ⟨rfl, _, rfl, Below.refl _ _, rfl⟩
          refine HSteps.cons ?_ ?_
          · intro f w' hb hU
            obtain u14 : f 28 = .int .u64 ft := hU.get ⟨14, .data⟩ (by simp) rfl
            obtain u13 : f 27 = .bool true := hU.get ⟨13, .guard⟩ (by simp) rfl
            simp only [putAll, List.foldl_cons, List.foldl_nil]
            go_frame
            try simp only [u14, u13]
            go_wp2_with fail
            exact ⟨rfl, _, rfl, Below.refl _ _, congrArg Value.bool Y3.out⟩
          refine HSteps.cons ?_ ?_
          · intro f w' hb hU
            obtain u13 : f 27 = .bool true := hU.get ⟨13, .data⟩ (by simp) rfl
            obtain u15 : f 29 = .bool true := hU.get ⟨15, .data⟩ (by simp) rfl
            simp only [putAll, List.foldl_cons, List.foldl_nil]
            go_frame
            try simp only [u13, u15]
            go_wp2_with fail
            exact ⟨rfl, _, rfl, Below.refl _ _, rfl⟩
          refine HSteps.cons ?_ ?_
          · intro f w' hb hU
            obtain u0 : f 14 = .int .u64 ep := hU.get ⟨0, .data⟩ (by simp) rfl
            obtain u13 : f 27 = .bool true := hU.get ⟨13, .chain⟩ (by simp) rfl
            simp only [putAll, List.foldl_cons, List.foldl_nil]
            go_frame
            try simp only [u0, u13]
            go_wp2_with fail
            exact ⟨rfl, _, rfl, Below.refl _ _, rfl⟩
          refine HSteps.cons ?_ ?_
          · intro f w' hb hU
            obtain u1 : f 15 = .int .u64 ft := hU.get ⟨1, .data⟩ (by simp) rfl
            obtain u17 : f 2 = .int .u64 ep := hU.get ⟨17, .chain⟩ (by simp) rfl
            obtain u0 : f 14 = .int .u64 ep := hU.get ⟨0, .phase⟩ (by simp) rfl
            simp only [putAll, List.foldl_cons, List.foldl_nil]
            go_frame
            try simp only [u1, u17, u0]
            go_wp2_with fail
            exact ⟨rfl, _, rfl, Below.refl _ _, rfl⟩
          refine HSteps.cons ?_ ?_
          · intro f w' hb hU
            obtain u16 : f 30 = .bool true := hU.get ⟨16, .data⟩ (by simp) rfl
            obtain u18 : f 3 = .int .u64 ft := hU.get ⟨18, .chain⟩ (by simp) rfl
            obtain u0 : f 14 = .int .u64 ep := hU.get ⟨0, .phase⟩ (by simp) rfl
            obtain u1 : f 15 = .int .u64 ft := hU.get ⟨1, .phase⟩ (by simp) rfl
            obtain u2 : f 16 = .slice A 128 c := hU.get ⟨2, .phase⟩ (by simp) rfl
            obtain u3 : f 17 = str s0 := hU.get ⟨3, .phase⟩ (by simp) rfl
            obtain u4 : f 18 = .int .u64 ep := hU.get ⟨4, .phase⟩ (by simp) rfl
            obtain u5 : f 19 = .int .u64 ft := hU.get ⟨5, .phase⟩ (by simp) rfl
            obtain ⟨A', c', u6, v6_0⟩ : ∃ (A' : Option Addr), ∃ (c' : Nat), f 20 = .slice A' 128 c' ∧ RB w' A' 128 (hdr ep ft) := hU.get ⟨6, .phase⟩ (by simp) rfl
            obtain u7 : f 21 = str (hdr ep ft) := hU.get ⟨7, .phase⟩ (by simp) rfl
            obtain u8 : f 22 = .bool true := hU.get ⟨8, .phase⟩ (by simp) rfl
            obtain u9 : f 23 = .bool true := hU.get ⟨9, .phase⟩ (by simp) rfl
            obtain u10 : f 24 = .int .u64 ep := hU.get ⟨10, .phase⟩ (by simp) rfl
            obtain u11 : f 25 = .bool true := hU.get ⟨11, .phase⟩ (by simp) rfl
            obtain u12 : f 26 = .bool true := hU.get ⟨12, .phase⟩ (by simp) rfl
            obtain u13 : f 27 = .bool true := hU.get ⟨13, .phase⟩ (by simp) rfl
            obtain u14 : f 28 = .int .u64 ft := hU.get ⟨14, .phase⟩ (by simp) rfl
            obtain u15 : f 29 = .bool true := hU.get ⟨15, .phase⟩ (by simp) rfl
            obtain u17 : f 2 = .int .u64 ep := hU.get ⟨17, .phase⟩ (by simp) rfl
            simp only [putAll, List.foldl_cons, List.foldl_nil]
            go_frame
            try simp only [u16, u18, u0, u1, u2, u3, u4, u5, u6, u7, u8, u9, u10, u11, u12, u13, u14, u15, u17]
            go_wp2_with fail
            exact ⟨rfl, _, rfl, Below.refl _ _, rfl⟩
          exact HSteps.nil
        case grow =>
          intro kq u wa wb hb hu
          rcases kq with _ | _ | _ | _ | _ | _ | _ | _ | _ | _ | _ | _ | _ | _ | _ | _ | _ | _ | _ | _ | kq
          · exact hu
          · exact hu
          · exact hu
          · exact hu
          · exact hu
          · exact hu
          · obtain ⟨A', c', ue, uf0⟩ := hu
            exact ⟨A', c', ue, uf0.below hb⟩
          · exact hu
          · exact hu
          · exact hu
          · exact hu
          · exact hu
          · exact hu
          · exact hu
          · exact hu
          · exact hu
          · exact hu
          · exact hu
          · exact hu
          · exact hu
          · trivial
        case tail =>
          intro f w7 hb7 hU
          obtain u0 : f 14 = .int .u64 ep := hU.get 0 (by decide)
          obtain u1 : f 15 = .int .u64 ft := hU.get 1 (by decide)
          obtain u2 : f 16 = .slice A 128 c := hU.get 2 (by decide)
          obtain u3 : f 17 = str s0 := hU.get 3 (by decide)
          obtain u4 : f 18 = .int .u64 ep := hU.get 4 (by decide)
          obtain u5 : f 19 = .int .u64 ft := hU.get 5 (by decide)
          obtain ⟨A', c', u6, v6_0⟩ : ∃ (A' : Option Addr), ∃ (c' : Nat), f 20 = .slice A' 128 c' ∧ RB w7 A' 128 (hdr ep ft) := hU.get 6 (by decide)
          obtain u7 : f 21 = str (hdr ep ft) := hU.get 7 (by decide)
          obtain u8 : f 22 = .bool true := hU.get 8 (by decide)
          obtain u9 : f 23 = .bool true := hU.get 9 (by decide)
          obtain u10 : f 24 = .int .u64 ep := hU.get 10 (by decide)
          obtain u11 : f 25 = .bool true := hU.get 11 (by decide)
          obtain u12 : f 26 = .bool true := hU.get 12 (by decide)
          obtain u13 : f 27 = .bool true := hU.get 13 (by decide)
          obtain u14 : f 28 = .int .u64 ft := hU.get 14 (by decide)
          obtain u15 : f 29 = .bool true := hU.get 15 (by decide)
          obtain u16 : f 30 = .bool true := hU.get 16 (by decide)
          obtain u17 : f 2 = .int .u64 ep := hU.get 17 (by decide)
          obtain u18 : f 3 = .int .u64 ft := hU.get 18 (by decide)
          obtain u19 : f 4 = .bool true := hU.get 19 (by decide)
          simp only [List.drop_succ_cons, List.drop_zero, putAll, List.foldl_cons, List.foldl_nil]
          go_frame
          simp only [u0, u1, u2, u3, u4, u5, u6, u7, u8, u9, u10, u11, u12, u13, u14, u15, u16, u17, u18, u19]
          clear u0 u1 u2 u3 u4 u5 u6 u7 u8 u9 u10 u11 u12 u13 u14 u15 u16 u17 u18 u19
          clear hU
          go_wp2_with fail
          go_ret3
          exact ⟨by rw [HOK.out]; rfl, hb7⟩
  · have Y1 : (s0 == hdr ep ft) = false := beq_eq_false_iff_ne.2 h1
    have HOK : Hid (decide (hdrOk s0) = false) := hid (HOK0.out.trans (decide_eq_false (fun h => h1 h.2.2)))
    clear HOK0 h1
    refine wp_region_head 31 20 [14, 15, 16, 17, 18, 19, 20, 21, 22, 23, 24, 25, 26, 27, 28, 29, 30, 2, 3, 4] [] ((fun kq => ([fun u w' => u = .int .u64 ep, fun u w' => u = .int .u64 ft, fun u w' => u = .slice A 128 c, fun u w' => u = str s0, fun u w' => u = .int .u64 ep, fun u w' => u = .int .u64 ft, fun u w' => ∃ (A' : Option Addr), ∃ (c' : Nat), u = .slice A' 128 c' ∧ RB w' A' 128 (hdr ep ft), fun u w' => u = str (hdr ep ft), fun u w' => u = .bool false, fun u w' => u = .bool false, fun u w' => u = undef, fun u w' => u = undef, fun u w' => u = .bool false, fun u w' => u = .bool false, fun u w' => u = undef, fun u w' => u = undef, fun u w' => u = .bool false, fun u w' => u = .int .u64 ep, fun u w' => u = .int .u64 ft, fun u w' => u = .bool false] : List (Value → World → Prop)).getD kq (fun _ _ => True))) (by kernel_rfl) rfl (by kernel_rfl) (.inl rfl) ?grow ?step ?tail
    case step =>
      simp only [List.take_succ_cons, List.take_zero]
      refine HSteps.cons ?_ ?_
      · intro f w' hb hU
        simp only [putAll, List.foldl_cons, List.foldl_nil]
        go_frame
        go_wp2_with fail
        exact ⟨rfl, _, rfl, Below.refl _ _, rfl⟩
      refine HSteps.cons ?_ ?_
      · intro f w' hb hU
        simp only [putAll, List.foldl_cons, List.foldl_nil]
        go_frame
        go_wp2_with fail
        exact ⟨rfl, _, rfl, Below.refl _ _, rfl⟩
      refine HSteps.cons ?_ ?_
      · intro f w' hb hU
        simp only [putAll, List.foldl_cons, List.foldl_nil]
        go_frame
        go_wp2_with fail
        exact ⟨rfl, _, rfl, Below.refl _ _, rfl⟩
      refine HSteps.cons ?_ ?_
      · intro f w' hb hU
        obtain u2 : f 16 = .slice A 128 c := hU.get ⟨2, .data⟩ (by simp) rfl
        have k1 := run_str (hr.below hb) 25 9 5 c Tryd.underlying25 Tryd.underlying5 Tryd.underlying9
        simp only [putAll, List.foldl_cons, List.foldl_nil]
        go_frame
        try simp only [u2]
        go_wp2_with fail
        exact ⟨rfl, _, rfl, Below.refl _ _, rfl⟩
      refine HSteps.cons ?_ ?_
      · intro f w' hb hU
        simp only [putAll, List.foldl_cons, List.foldl_nil]
        go_frame
        go_wp2_with fail
        exact ⟨rfl, _, rfl, Below.refl _ _, rfl⟩
      refine HSteps.cons ?_ ?_
      · intro f w' hb hU
        simp only [putAll, List.foldl_cons, List.foldl_nil]
        go_frame
        go_wp2_with fail
        exact ⟨rfl, _, rfl, Below.refl _ _, rfl⟩
      refine HSteps.cons ?_ ?_
      · intro f w' hb hU
        obtain u4 : f 18 = .int .u64 ep := hU.get ⟨4, .data⟩ (by simp) rfl
        obtain u5 : f 19 = .int .u64 ft := hU.get ⟨5, .data⟩ (by simp) rfl
        simp only [putAll, List.foldl_cons, List.foldl_nil]
        go_frame
        try simp only [u4, u5]
        go_wp2_with fail
        refine (refHeader_any ep ft w' lE lF).mono ?_
        rintro e w3 ⟨v3, rfl, hown3, b3⟩
        obtain ⟨A3, c3, rfl, hr3, _, _⟩ := own_form hown3
        go_wp2_with fail
        exact ⟨rfl, _, rfl, b3, A3, c3, rfl, hr3⟩
      refine HSteps.cons ?_ ?_
      · intro f w' hb hU
        obtain ⟨A', c', u6, v6_0⟩ : ∃ (A' : Option Addr), ∃ (c' : Nat), f 20 = .slice A' 128 c' ∧ RB w' A' 128 (hdr ep ft) := hU.get ⟨6, .data⟩ (by simp) rfl
        have k1 := run_str v6_0 25 9 5 c' Tryd.underlying25 Tryd.underlying5 Tryd.underlying9
        simp only [putAll, List.foldl_cons, List.foldl_nil]
        go_frame
        try simp only [u6]
        go_wp2_with fail
        exact ⟨rfl, _, rfl, Below.refl _ _, rfl⟩
      refine HSteps.cons ?_ ?_
      · intro f w' hb hU
        obtain u3 : f 17 = str s0 := hU.get ⟨3, .data⟩ (by simp) rfl
        obtain u7 : f 21 = str (hdr ep ft) := hU.get ⟨7, .data⟩ (by simp) rfl
        have y1 := Y1
        simp only [putAll, List.foldl_cons, List.foldl_nil]
        go_frame
        try simp only [u3, u7]
        go_wp2_with fail
        exact ⟨rfl, _, rfl, Below.refl _ _, rfl⟩
      refine HSteps.cons ?_ ?_
      · intro f w' hb hU
        obtain u8 : f 22 = .bool false := hU.get ⟨8, .data⟩ (by simp) rfl
        obtain ⟨A', c', u6, v6_0⟩ : ∃ (A' : Option Addr), ∃ (c' : Nat), f 20 = .slice A' 128 c' ∧ RB w' A' 128 (hdr ep ft) := hU.get ⟨6, .chain⟩ (by simp) rfl
        simp only [putAll, List.foldl_cons, List.foldl_nil]
        go_frame
        try simp only [u8, u6]
        go_wp2_with fail
        exact ⟨rfl, _, rfl, Below.refl _ _, rfl⟩
      refine HSteps.cons ?_ ?_
      · intro f w' hb hU
        obtain u9 : f 23 = .bool false := hU.get ⟨9, .guard⟩ (by simp) rfl
        simp only [putAll, List.foldl_cons, List.foldl_nil]
        go_frame
        try simp only [u9]
        go_wp2_with fail
        exact ⟨rfl, _, rfl, Below.refl _ _, rfl⟩
      refine HSteps.cons ?_ ?_
      · intro f w' hb hU
        obtain u10 : f 24 = undef := hU.get ⟨10, .data⟩ (by simp) rfl
        obtain u9 : f 23 = .bool false := hU.get ⟨9, .guard⟩ (by simp) rfl
        simp only [putAll, List.foldl_cons, List.foldl_nil]
        go_frame
        try simp only [u10, u9]
        go_wp2_with fail
        exact ⟨rfl, _, rfl, Below.refl _ _, rfl⟩
      refine HSteps.cons ?_ ?_
      · intro f w' hb hU
        obtain u9 : f 23 = .bool false := hU.get ⟨9, .data⟩ (by simp) rfl
        obtain u11 : f 25 = undef := hU.get ⟨11, .data⟩ (by simp) rfl
        simp only [putAll, List.foldl_cons, List.foldl_nil]
        go_frame
        try simp only [u9, u11]
        go_wp2_with fail
        exact ⟨rfl, _, rfl, Below.refl _ _, rfl⟩
      refine HSteps.cons ?_ ?_
      · intro f w' hb hU
        obtain u12 : f 26 = .bool false := hU.get ⟨12, .data⟩ (by simp) rfl
        obtain u9 : f 23 = .bool false := hU.get ⟨9, .chain⟩ (by simp) rfl
        simp only [putAll, List.foldl_cons, List.foldl_nil]
        go_frame
        try simp only [u12, u9]
        go_wp2_with fail
        exact ⟨rfl, _, rfl, Below.refl _ _, rfl⟩
      refine HSteps.cons ?_ ?_
      · intro f w' hb hU
        obtain u13 : f 27 = .bool false := hU.get ⟨13, .guard⟩ (by simp) rfl
        simp only [putAll, List.foldl_cons, List.foldl_nil]
        go_frame
        try simp only [u13]
        go_wp2_with fail
        exact ⟨rfl, _, rfl, Below.refl _ _, rfl⟩
      refine HSteps.cons ?_ ?_
      · intro f w' hb hU
        obtain u14 : f 28 = undef := hU.get ⟨14, .data⟩ (by simp) rfl
        obtain u13 : f 27 = .bool false := hU.get ⟨13, .guard⟩ (by simp) rfl
        simp only [putAll, List.foldl_cons, List.foldl_nil]
        go_frame
        try simp only [u14, u13]
        go_wp2_with fail
        exact ⟨rfl, _, rfl, Below.refl _ _, rfl⟩
      refine HSteps.cons ?_ ?_
      · intro f w' hb hU
        obtain u13 : f 27 = .bool false := hU.get ⟨13, .data⟩ (by simp) rfl
        obtain u15 : f 29 = undef := hU.get ⟨15, .data⟩ (by simp) rfl
        simp only [putAll, List.foldl_cons, List.foldl_nil]
        go_frame
        try simp only [u13, u15]
        go_wp2_with fail
        exact ⟨rfl, _, rfl, Below.refl _ _, rfl⟩
      refine HSteps.cons ?_ ?_
      · intro f w' hb hU
        obtain u0 : f 14 = .int .u64 ep := hU.get ⟨0, .data⟩ (by simp) rfl
        obtain u13 : f 27 = .bool false := hU.get ⟨13, .chain⟩ (by simp) rfl
        simp only [putAll, List.foldl_cons, List.foldl_nil]
        go_frame
        try simp only [u0, u13]
        go_wp2_with fail
        exact ⟨rfl, _, rfl, Below.refl _ _, rfl⟩
      refine HSteps.cons ?_ ?_
      · intro f w' hb hU
        obtain u1 : f 15 = .int .u64 ft := hU.get ⟨1, .data⟩ (by simp) rfl
        obtain u17 : f 2 = .int .u64 ep := hU.get ⟨17, .chain⟩ (by simp) rfl
        obtain u0 : f 14 = .int .u64 ep := hU.get ⟨0, .phase⟩ (by simp) rfl
        simp only [putAll, List.foldl_cons, List.foldl_nil]
        go_frame
        try simp only [u1, u17, u0]
        go_wp2_with fail
        exact ⟨rfl, _, rfl, Below.refl _ _, rfl⟩
      refine HSteps.cons ?_ ?_
      · intro f w' hb hU
        obtain u16 : f 30 = .bool false := hU.get ⟨16, .data⟩ (by simp) rfl
        obtain u18 : f 3 = .int .u64 ft := hU.get ⟨18, .chain⟩ (by simp) rfl
        obtain u0 : f 14 = .int .u64 ep := hU.get ⟨0, .phase⟩ (by simp) rfl
        obtain u1 : f 15 = .int .u64 ft := hU.get ⟨1, .phase⟩ (by simp) rfl
        obtain u2 : f 16 = .slice A 128 c := hU.get ⟨2, .phase⟩ (by simp) rfl
        obtain u3 : f 17 = str s0 := hU.get ⟨3, .phase⟩ (by simp) rfl
        obtain u4 : f 18 = .int .u64 ep := hU.get ⟨4, .phase⟩ (by simp) rfl
        obtain u5 : f 19 = .int .u64 ft := hU.get ⟨5, .phase⟩ (by simp) rfl
        obtain ⟨A', c', u6, v6_0⟩ : ∃ (A' : Option Addr), ∃ (c' : Nat), f 20 = .slice A' 128 c' ∧ RB w' A' 128 (hdr ep ft) := hU.get ⟨6, .phase⟩ (by simp) rfl
        obtain u7 : f 21 = str (hdr ep ft) := hU.get ⟨7, .phase⟩ (by simp) rfl
        obtain u8 : f 22 = .bool false := hU.get ⟨8, .phase⟩ (by simp) rfl
        obtain u9 : f 23 = .bool false := hU.get ⟨9, .phase⟩ (by simp) rfl
        obtain u10 : f 24 = undef := hU.get ⟨10, .phase⟩ (by simp) rfl
        obtain u11 : f 25 = undef := hU.get ⟨11, .phase⟩ (by simp) rfl
        obtain u12 : f 26 = .bool false := hU.get ⟨12, .phase⟩ (by simp) rfl
        obtain u13 : f 27 = .bool false := hU.get ⟨13, .phase⟩ (by simp) rfl
        obtain u14 : f 28 = undef := hU.get ⟨14, .phase⟩ (by simp) rfl
        obtain u15 : f 29 = undef := hU.get ⟨15, .phase⟩ (by simp) rfl
        obtain u17 : f 2 = .int .u64 ep := hU.get ⟨17, .phase⟩ (by simp) rfl
        simp only [putAll, List.foldl_cons, List.foldl_nil]
        go_frame
        try simp only [u16, u18, u0, u1, u2, u3, u4, u5, u6, u7, u8, u9, u10, u11, u12, u13, u14, u15, u17]
        go_wp2_with fail
        exact ⟨rfl, _, rfl, Below.refl _ _, rfl⟩
      exact HSteps.nil
    case grow =>
      intro kq u wa wb hb hu
      rcases kq with _ | _ | _ | _ | _ | _ | _ | _ | _ | _ | _ | _ | _ | _ | _ | _ | _ | _ | _ | _ | kq
      · exact hu
      · exact hu
      · exact hu
      · exact hu
      · exact hu
      · exact hu
      · obtain ⟨A', c', ue, uf0⟩ := hu
        exact ⟨A', c', ue, uf0.below hb⟩
      · exact hu
      · exact hu
      · exact hu
      · exact hu
      · exact hu
      · exact hu
      · exact hu
      · exact hu
      · exact hu
      · exact hu
      · exact hu
      · exact hu
      · exact hu
      · trivial
    case tail =>
      intro f w7 hb7 hU
      obtain u0 : f 14 = .int .u64 ep := hU.get 0 (by decide)
      obtain u1 : f 15 = .int .u64 ft := hU.get 1 (by decide)
      obtain u2 : f 16 = .slice A 128 c := hU.get 2 (by decide)
      obtain u3 : f 17 = str s0 := hU.get 3 (by decide)
      obtain u4 : f 18 = .int .u64 ep := hU.get 4 (by decide)
      obtain u5 : f 19 = .int .u64 ft := hU.get 5 (by decide)
      obtain ⟨A', c', u6, v6_0⟩ : ∃ (A' : Option Addr), ∃ (c' : Nat), f 20 = .slice A' 128 c' ∧ RB w7 A' 128 (hdr ep ft) := hU.get 6 (by decide)
      obtain u7 : f 21 = str (hdr ep ft) := hU.get 7 (by decide)
      obtain u8 : f 22 = .bool false := hU.get 8 (by decide)
      obtain u9 : f 23 = .bool false := hU.get 9 (by decide)
      obtain u10 : f 24 = undef := hU.get 10 (by decide)
      obtain u11 : f 25 = undef := hU.get 11 (by decide)
      obtain u12 : f 26 = .bool false := hU.get 12 (by decide)
      obtain u13 : f 27 = .bool false := hU.get 13 (by decide)
      obtain u14 : f 28 = undef := hU.get 14 (by decide)
      obtain u15 : f 29 = undef := hU.get 15 (by decide)
      obtain u16 : f 30 = .bool false := hU.get 16 (by decide)
      obtain u17 : f 2 = .int .u64 ep := hU.get 17 (by decide)
      obtain u18 : f 3 = .int .u64 ft := hU.get 18 (by decide)
      obtain u19 : f 4 = .bool false := hU.get 19 (by decide)
      simp only [List.drop_succ_cons, List.drop_zero, putAll, List.foldl_cons, List.foldl_nil]
      go_frame
      simp only [u0, u1, u2, u3, u4, u5, u6, u7, u8, u9, u10, u11, u12, u13, u14, u15, u16, u17, u18, u19]
      clear u0 u1 u2 u3 u4 u5 u6 u7 u8 u9 u10 u11 u12 u13 u14 u15 u16 u17 u18 u19
      clear hU
      go_wp2_with fail
      go_ret3
      exact ⟨by rw [HOK.out]; rfl, hb7⟩
end Go.Proofs.YtlokfndonjldpaaDoor

