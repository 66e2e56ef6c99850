/- The reference's Intact, walked where the record fits. Conditions: the bytes read. -/
import Derived.Test.YtlokfndonjldpaaDoorRefInt
set_option linter.unusedSimpArgs false
set_option linter.unusedVariables false
namespace Go.Proofs.YtlokfndonjldpaaDoor
open Go.RowKit

/-- bytes do not lie in a block that holds none -/
theorem RB.apart {w w' : World} {A : Option Addr} {n : Nat} {l : List UInt8} {g : Nat} {t : TypeId} {cs : List Value} (h : RB w A n l) (hk : Blk w g t cs) (hno : ∀ v ∈ cs, ∀ x, v ≠ byV x) (hr : w.grownBy w' (some g)) : RB w' A n l := by
  refine RL.grown h hr (fun g' hg' hn b o hA hbg => ?_)
  cases hg'
  subst hbg
  obtain ⟨b', o', x, e', _, hx, hc⟩ := RB.at h hn
  rw [hA] at e'
  cases e'
  rw [hk.cell] at hc
  exact hno _ (List.mem_of_getElem? hc) x rfl
theorem en_no : ∀ v ∈ En.zero.cs, ∀ x, v ≠ byV x := by
  intro v hv x
  simp only [En.cs, List.mem_cons, List.not_mem_nil, or_false] at hv
  rcases hv with rfl | rfl | rfl | rfl | rfl <;> (unfold byV; intro h; cases h)
set_option maxRecDepth 100000 in
set_option maxHeartbeats 4000000 in
theorem refIntact_go (A : Option Addr) (c : Nat) (fs : List (List UInt8)) (j : Nat) (w : World) (hr : RB w A (128 * fs.length) fs.flatten) (h128 : ∀ s ∈ fs, s.length = 128) (hn : fs.length ≤ 1000) (hj : j < fs.length) (hnc : 128 * fs.length ≤ c) (hcm : c ≤ 9223372036854775807)
    (hL1 : recLen (fs.drop j) ≤ 8192) (hL2 : cnt (recLen (fs.drop j)) ≤ fs.length - j) :
    Calls Tryd.prog 45 #[.slice A (128 * fs.length) c, .int .i64 ((j : Int) * 128)] w fun e w' => rintE (intactP (fs.drop j)) e w w' := by
  have hd128 : ∀ s ∈ fs.drop j, s.length = 128 := fun s hs => h128 s (List.mem_of_mem_drop hs)
  have hL2' : cnt (recLen (fs.drop j)) ≤ (fs.drop j).length := by rw [List.length_drop]; exact hL2
  have HP : Hid (intactP (fs.drop j) = if (fs.drop j).take (cnt (recLen (fs.drop j))) = recSecs (tag1 (fs.drop j)) (payl (fs.drop j)) then some (tag1 (fs.drop j), payl (fs.drop j), cnt (recLen (fs.drop j))) else none) := by
    show _ = _
    unfold intactP
    by_cases hq : (fs.drop j).take (cnt (recLen (fs.drop j))) = recSecs (tag1 (fs.drop j)) (payl (fs.drop j))
    · rw [if_pos ⟨hL1, hL2', hq⟩, if_pos hq]
    · rw [if_neg (fun hh => hq hh.2.2), if_neg hq]
  have HPL := hid (payl_len hd128 hL2')
  have HTL := hid (tag1_len hd128 hL2')
  have HDL := hid (data_of hd128 hL2')
  have HPy : Hid (payl (fs.drop j) = ((parts ((fs.drop j).take (cnt (recLen (fs.drop j))))).drop 4).take (recLen (fs.drop j))) := hid rfl
  have HH := hid (fun i (hi : i < 2 * cnt (recLen (fs.drop j))) => half_at h128 (j := j) (K := cnt (recLen (fs.drop j))) (i := i) (by omega) hi)
  obtain ⟨s, hs⟩ : ∃ s, fs[j]? = some s := ⟨_, List.getElem?_eq_getElem hj⟩
  have hsl := h128 s (List.mem_of_getElem? hs)
  have hL0 : num ((fs.flatten.drop (128 * j + 24)).take 4) = recLen (fs.drop j) := by rw [flat_in h128 hs 24 4 (by omega), (recLen_at hs).1]
  have tg : ∀ o, o + 8 ≤ 24 → (fs.flatten.drop (128 * j + o)).take 8 = ((tag1 (fs.drop j)).drop o).take 8 := fun o ho => by
    rw [flat_in h128 hs o 8 (by omega), (recLen_at hs).2, List.drop_take, List.take_take, Nat.min_eq_left (by omega)]
  have HT1 : Hid (num ((fs.flatten.drop (128 * j)).take 8) = tE (tag1 (fs.drop j))) := hid (by have := tg 0 (by omega); rw [Nat.add_zero, List.drop_zero] at this; rw [this]; rfl)
  have HT2 : Hid (num ((fs.flatten.drop (128 * j + 8)).take 8) = tG (tag1 (fs.drop j))) := hid (by rw [tg 8 (by omega)]; rfl)
  have HT3 : Hid (num ((fs.flatten.drop (128 * j + 16)).take 8) = tL (tag1 (fs.drop j))) := hid (by rw [tg 16 (by omega)]; rfl)
  have l1 : tE (tag1 (fs.drop j)) < 18446744073709551616 := tE_lt _
  have l2 : tG (tag1 (fs.drop j)) < 18446744073709551616 := tG_lt _
  have l3 : tL (tag1 (fs.drop j)) < 18446744073709551616 := tL_lt _
  have HEq : Hid ((fs.flatten.drop (128 * j)).take (128 * cnt (recLen (fs.drop j))) = ((fs.drop j).take (cnt (recLen (fs.drop j)))).flatten) := hid (by rw [flat_drop j h128, flat_take' _ hd128])
  have HTB : Hid (tagB (tE (tag1 (fs.drop j))) (tG (tag1 (fs.drop j))) (tL (tag1 (fs.drop j))) = tag1 (fs.drop j)) := hid (tagB_of _ HTL.out)
  have HF128 := hid (fun s (hs : s ∈ (fs.drop j).take (cnt (recLen (fs.drop j)))) => hd128 s (List.mem_of_mem_take hs))
  have hlenF := flat_len h128
  have HFl := hid hlenF
  have t1 : ¬ ((j : Int) * 128 + 128) > 128 * (fs.length : Int) := by omega
  have hjn : (j : Int) < (fs.length : Int) := by omega
  have HG := hid (fun (at_ k : Nat) w' (hb : Below w.heap.size w w') (h1 : at_ + k ≤ 128 * fs.length) (hk : k ≤ 8) => get_any A (128 * fs.length) c fs.flatten at_ k w' (hr.below hb) h1 hk (by omega))
  have HSe := hid (fun w' => refSectors_any (recLen (fs.drop j)) w' (by omega))
  clear hs hsl tg hd128 hL2' h128 hlenF
  generalize fs.flatten = all at *
  generalize recLen (fs.drop j) = L at *
  obtain ⟨K, hK⟩ : ∃ z, cnt L = z := ⟨_, rfl⟩
  have HK := hid hK
  have hK103 : K ≤ 103 := by rw [← hK]; unfold cnt; omega
  have hrm : L + 8 ≤ 80 * K := by rw [← hK]; exact cnt_room L
  rw [hK] at HP HDL HPy HH HEq HF128 hL2 HSe
  clear hK
  generalize (fs.drop j).take K = gs at *
  generalize tag1 (fs.drop j) = tg at *
  generalize payl (fs.drop j) = py at *
  obtain ⟨DD, hDD⟩ : ∃ z, parts gs = z := ⟨_, rfl⟩
  rw [hDD] at HDL HPy HH
  clear hDD
  obtain ⟨N, hN⟩ : ∃ z, fs.length = z := ⟨_, rfl⟩
  rw [hN] at hr hn hj hnc hL2 HG t1 hjn HFl ⊢
  clear hN
  have t2 : ¬ (L : Int) > 8192 := by omega
  have t3 : ¬ ((j : Int) * 128 + 128 * (K : Int)) > 128 * (N : Int) := by omega
  go_enter Tryd.func45, Tryd.ntmps45
  go_wp2_with ((with_reducible refine is_alloc 102 ?_); refine wp_allocB (w := w) _ arrEn ?_; intro w1 k1 b1 s1; go_frame)
  have R := HG.out (128 * j + 24) 4 w1 b1 (by omega) (by omega)
  rw [hL0, show ((128 * j + 24 : Nat) : Int) = (j : Int) * 128 + 24 by omega] at R
  refine R.mono ?_
  clear R
  rintro e w' ⟨rfl, rfl⟩
  go_wp2_with fail
  refine (HSe.out w1).mono ?_
  rintro e w' ⟨rfl, rfl⟩
  have hg1 : w.heap.size < w1.heap.size := k1.lt
  go_wp2_with fail
  obtain ⟨g0, hg0⟩ : ∃ z, z = w1.heap.size := ⟨_, rfl⟩
  go_loopw [7, 8] (fun v i wr => ∃ q : Nat, q ≤ 2 * K ∧ i = .int .i64 q ∧ wr.ownsRow g0 5 1 v (40 * q) ((DD.take (40 * q)).map byV) ∧ Blk wr w.heap.size 102 En.zero.cs ∧ Below w.heap.size w wr ∧ g0 ≤ wr.heap.size) (fun _ i _ => 2 * K - (intOf i).toNat)
  case atStart => exact ⟨0, Nat.zero_le _, rfl, World.ownsRow_nil _ _ _ _, k1, b1, by omega⟩
  case round =>
    obtain ⟨q, hq, rfl, hown, kr, hbel, hgr⟩ := hrel
    clear k1 b1
    by_cases hlt : q < 2 * K
    · go_wp2_with fail
      refine (HSe.out wr).mono ?_
      rintro e w' ⟨rfl, rfl⟩
      have hrr := hr.below hbel
      obtain ⟨b, off, x, rfl, hbs, _, _⟩ := hrr.at (k := 0) (by omega)
      have n1 : ¬ c = 128 * j + 64 * q + 24 := by omega
      have ks : ∀ wx, (Instr.slice 25 (.slice (some ⟨b, off, none⟩) (128 * N) c) (some (.int .i64 ((j : Int) * 128 + 64 * (q : Int) + 24))) (some (.int .i64 ((j : Int) * 128 + 64 * (q : Int) + 64))) none).run Tryd.prog wx = .ok (.slice (some ⟨b, off + (128 * j + 64 * q + 24), none⟩) 40 (c - (128 * j + 64 * q + 24))) wx := fun wx => by
        have := run_part (P := Tryd.prog) 25 5 Tryd.underlying25 bytesN (some ⟨b, off, none⟩) (128 * N) c (128 * j + 64 * q + 24) (128 * j + 64 * q + 64) .i64 .i64 ((j : Int) * 128 + 64 * (q : Int) + 24) ((j : Int) * 128 + 64 * (q : Int) + 64) (by omega) (by omega) (by omega) (by omega) wx
        rw [if_neg n1, show 128 * j + 64 * q + 64 - (128 * j + 64 * q + 24) = 40 by omega] at this
        simpa [add_spot] using this
      have hrj := hrr.sub (128 * j + 64 * q + 24) 40 (by omega)
      rw [HH.out q hlt] at hrj
      have hDn : (DD.take (40 * (q + 1))) = DD.take (40 * q) ++ (DD.drop (40 * q)).take 40 := by rw [show 40 * (q + 1) = 40 * q + 40 by omega, List.take_add]
      have HDn := hid hDn
      clear hDn
      have tq : ((q : Int) < 2 * (K : Int)) := by omega
      go_wp2_with (at_builtin; refine wp_app _ rfl _ _ 25 rfl g0 5 _ 1 bytesT _ _ _ hown rfl _ 40 _ _ hrj rfl (byV_one _) (by unfold maxLen; omega) (by omega) hgr ?_; intro v5 w5 hown5 r5 a5; go_frame)
      have ne := fun g hg => (hown.lt g hg).1
      have k5 := kr.grown r5 (fun hq => by have := ne _ hq; omega)
      have B5 := hbel.grown r5 hbel.size (fun g hg => by have := ne g hg; omega)
      rw [← List.map_append, ← HDn.out, show 40 * q + 40 = 40 * (q + 1) by omega] at hown5
      clear ks hrj hrr hown kr hbel
      go_roundw
      case rel => exact ⟨q + 1, by omega, by go_num, hown5, k5, B5, Nat.le_trans hgr r5.size⟩
      case measure => simp [intOf]; omega
    · obtain rfl : q = 2 * K := by omega
      have tq : ¬ ((2 * (K : Int)) < 2 * (K : Int)) := by omega
      rw [List.take_of_length_le (by rw [HDL.out]; omega)] at hown
      obtain ⟨A6, c6, rfl, hr6, h6c, h6m⟩ := own_form hown
      have hr6 : RB wr A6 (40 * (2 * K)) DD := hr6
      go_wp2_with fail
      refine (HSe.out wr).mono ?_
      rintro e w' ⟨rfl, rfl⟩
      obtain ⟨b6, o6, x6, rfl, _⟩ := hr6.at (k := 0) (by omega)
      have n6 : ¬ c6 = 4 := by omega
      have ks6 : Hid (∀ wx, (Instr.slice 25 (.slice (some ⟨b6, o6, none⟩) (40 * (2 * K)) c6) (some (.int .i64 4)) (some (.int .i64 (4 + (L : Int)))) none).run Tryd.prog wx = .ok (.slice (some ⟨b6, o6 + 4, none⟩) L (c6 - 4)) wx) := hid fun wx => by
        have := run_part (P := Tryd.prog) 25 5 Tryd.underlying25 bytesN (some ⟨b6, o6, none⟩) (40 * (2 * K)) c6 4 (4 + L) .i64 .i64 4 (4 + (L : Int)) rfl (by omega) (by omega) (by omega) wx
        rw [if_neg n6, show 4 + L - 4 = L by omega] at this
        simpa [add_spot] using this
      have hrp := hr6.sub 4 L (by omega)
      rw [← HPy.out] at hrp
      have hbd : Below wr.heap.size wr wr.drew := (Below.refl _ _).drew
      go_wp2_with fail
      refine wp_region_head 96 21 [55, 56, 57, 58, 59, 60, 61, 62, 63, 64, 65, 66, 67, 68, 69, 70, 71, 72, 73, 74, 9] [] ((fun kq => ([fun u w' => u = .slice A (128 * N) c, fun u w' => u = .int .i64 ((j : Int) * 128), fun u w' => u = .int .u64 (tE tg), fun u w' => u = .slice A (128 * N) c, fun u w' => u = .int .i64 ((j : Int) * 128), fun u w' => u = .int .i64 ((j : Int) * 128 + 8), fun u w' => u = .int .u64 (tG tg), fun u w' => u = .slice A (128 * N) c, fun u w' => u = .int .i64 ((j : Int) * 128), fun u w' => u = .int .i64 ((j : Int) * 128 + 16), fun u w' => u = .int .u64 (tL tg), fun u w' => ∃ (g' : Nat), u = .slice (some ⟨g', 0, none⟩) 0 0, fun u w' => u = .slice (some ⟨b6, o6, none⟩) (40 * (2 * K)) c6, fun u w' => u = .int .i64 L, fun u w' => u = .int .i64 (4 + (L : Int)), fun u w' => u = .slice (some ⟨b6, o6 + 4, none⟩) L (c6 - 4), fun u w' => ∃ (A' : Option Addr), ∃ (c' : Nat), u = .slice A' L c' ∧ RN (fun b => wr.heap.size ≤ b) w' 1 A' L (py.map byV) ∧ L ≤ c' ∧ c' ≤ 9223372036854775807, fun u w' => u = .int .i64 L, fun u w' => u = .int .i64 K, fun u w' => ∃ (A' : Option Addr), ∃ (c' : Nat), u = .agg #[.int .u64 (tE tg), .int .u64 (tG tg), .int .u64 (tL tg), .slice A' L c', .int .i64 K] ∧ RN (fun b => wr.heap.size ≤ b) w' 1 A' L (py.map byV) ∧ L ≤ c' ∧ c' ≤ 9223372036854775807, fun u w' => ∃ (b9 : Nat), u = .pointer (some ⟨b9, 0, none⟩) ∧ wr.heap.size ≤ b9 ∧ Blk w' b9 102 En.zero.cs] : List (Value → World → Prop)).getD kq (fun _ _ => True))) (by kernel_rfl) rfl (by kernel_rfl) (.inl rfl) ?grow ?step ?tail
      case step =>
        simp only [List.take_succ_cons, List.take_zero]
        refine HSteps.cons ?_ ?_
        · intro f w' hb hU
          simp only [putAll, List.foldl_cons, List.foldl_nil]
          go_frame
          go_wp2_with fail
          exact ⟨rfl, _, rfl, Below.refl _ _, rfl⟩
        refine HSteps.cons ?_ ?_
        · intro f w' hb hU
          simp only [putAll, List.foldl_cons, List.foldl_nil]
          go_frame
          go_wp2_with fail
          exact ⟨rfl, _, rfl, Below.refl _ _, rfl⟩
        refine HSteps.cons ?_ ?_
        · intro f w' hb hU
          obtain u0 : f 55 = .slice A (128 * N) c := hU.get ⟨0, .data⟩ (by simp) rfl
          obtain u1 : f 56 = .int .i64 ((j : Int) * 128) := hU.get ⟨1, .data⟩ (by simp) rfl
          have R := HG.out (128 * j) 8 w' (hbel.trans (hb.mono hbel.size)) (by omega) (by omega)
          rw [HT1.out, show ((128 * j : Nat) : Int) = (j : Int) * 128 by omega] at R
          simp only [putAll, List.foldl_cons, List.foldl_nil]
          go_frame
          try simp only [u0, u1]
          go_wp2_with fail
          refine (R).mono ?_
          rintro e w3 ⟨rfl, rfl⟩
          go_wp2_with fail
          exact ⟨rfl, _, rfl, Below.refl  _ _, rfl⟩
        refine HSteps.cons ?_ ?_
        · intro f w' hb hU
          simp only [putAll, List.foldl_cons, List.foldl_nil]
          go_frame
          go_wp2_with fail
          exact ⟨rfl, _, rfl, Below.refl _ _, rfl⟩
        refine HSteps.cons ?_ ?_
        · intro f w' hb hU
          simp only [putAll, List.foldl_cons, List.foldl_nil]
          go_frame
          go_wp2_with fail
          exact ⟨rfl, _, rfl, Below.refl _ _, rfl⟩
        refine HSteps.cons ?_ ?_
        · intro f w' hb hU
          obtain u4 : f 59 = .int .i64 ((j : Int) * 128) := hU.get ⟨4, .data⟩ (by simp) rfl
          simp only [putAll, List.foldl_cons, List.foldl_nil]
          go_frame
          try simp only [u4]
          go_wp2_with fail
          exact ⟨rfl, _, rfl, Below.refl _ _, rfl⟩
        refine HSteps.cons ?_ ?_
        · intro f w' hb hU
          obtain u3 : f 58 = .slice A (128 * N) c := hU.get ⟨3, .data⟩ (by simp) rfl
          obtain u5 : f 60 = .int .i64 ((j : Int) * 128 + 8) := hU.get ⟨5, .data⟩ (by simp) rfl
          obtain u2 : f 57 = .int .u64 (tE tg) := hU.get ⟨2, .chain⟩ (by simp) rfl
          have R := HG.out (128 * j + 8) 8 w' (hbel.trans (hb.mono hbel.size)) (by omega) (by omega)
          rw [HT2.out, show ((128 * j + 8 : Nat) : Int) = (j : Int) * 128 + 8 by omega] at R
          simp only [putAll, List.foldl_cons, List.foldl_nil]
          go_frame
          try simp only [u3, u5, u2]
          go_wp2_with fail
          refine (R).mono ?_
          rintro e w3 ⟨rfl, rfl⟩
          go_wp2_with fail
          exact ⟨rfl, _, rfl, Below.refl  _ _, rfl⟩
        refine HSteps.cons ?_ ?_
        · intro f w' hb hU
          simp only [putAll, List.foldl_cons, List.foldl_nil]
          go_frame
          go_wp2_with fail
          exact ⟨rfl, _, rfl, Below.refl _ _, rfl⟩
        refine HSteps.cons ?_ ?_
        · intro f w' hb hU
          simp only [putAll, List.foldl_cons, List.foldl_nil]
          go_frame
          go_wp2_with fail
          exact ⟨rfl, _, rfl, Below.refl _ _, rfl⟩
        refine HSteps.cons ?_ ?_
        · intro f w' hb hU
          obtain u8 : f 63 = .int .i64 ((j : Int) * 128) := hU.get ⟨8, .data⟩ (by simp) rfl
          simp only [putAll, List.foldl_cons, List.foldl_nil]
          go_frame
          try simp only [u8]
          go_wp2_with fail
          exact ⟨rfl, _, rfl, Below.refl _ _, rfl⟩
        refine HSteps.cons ?_ ?_
        · intro f w' hb hU
          obtain u7 : f 62 = .slice A (128 * N) c := hU.get ⟨7, .data⟩ (by simp) rfl
          obtain u9 : f 64 = .int .i64 ((j : Int) * 128 + 16) := hU.get ⟨9, .data⟩ (by simp) rfl
          obtain u6 : f 61 = .int .u64 (tG tg) := hU.get ⟨6, .chain⟩ (by simp) rfl
          have R := HG.out (128 * j + 16) 8 w' (hbel.trans (hb.mono hbel.size)) (by omega) (by omega)
          rw [HT3.out, show ((128 * j + 16 : Nat) : Int) = (j : Int) * 128 + 16 by omega] at R
          simp only [putAll, List.foldl_cons, List.foldl_nil]
          go_frame
          try simp only [u7, u9, u6]
          go_wp2_with fail
          refine (R).mono ?_
          rintro e w3 ⟨rfl, rfl⟩
          go_wp2_with fail
          exact ⟨rfl, _, rfl, Below.refl  _ _, rfl⟩
        refine HSteps.cons ?_ ?_
        · intro f w' hb hU
          simp only [putAll, List.foldl_cons, List.foldl_nil]
          go_frame
          go_wp2_with fail
          exact ⟨rfl, _, rfl, (Below.refl _ _).alloc (Nat.le_refl _) _, _, rfl⟩
        refine HSteps.cons ?_ ?_
        · intro f w' hb hU
          simp only [putAll, List.foldl_cons, List.foldl_nil]
          go_frame
          go_wp2_with fail
          exact ⟨rfl, _, rfl, Below.refl _ _, rfl⟩
        refine HSteps.cons ?_ ?_
        · intro f w' hb hU
          simp only [putAll, List.foldl_cons, List.foldl_nil]
          go_frame
          go_wp2_with fail
          exact ⟨rfl, _, rfl, Below.refl _ _, rfl⟩
        refine HSteps.cons ?_ ?_
        · intro f w' hb hU
          obtain u13 : f 68 = .int .i64 L := hU.get ⟨13, .data⟩ (by simp) rfl
          simp only [putAll, List.foldl_cons, List.foldl_nil]
          go_frame
          try simp only [u13]
          go_wp2_with fail
          exact ⟨rfl, _, rfl, Below.refl _ _, rfl⟩
        refine HSteps.cons ?_ ?_
        · intro f w' hb hU
          obtain u12 : f 67 = .slice (some ⟨b6, o6, none⟩) (40 * (2 * K)) c6 := hU.get ⟨12, .data⟩ (by simp) rfl
          obtain u14 : f 69 = .int .i64 (4 + (L : Int)) := hU.get ⟨14, .data⟩ (by simp) rfl
          have ks := ks6.out
          simp only [putAll, List.foldl_cons, List.foldl_nil]
          go_frame
          try simp only [u12, u14]
          go_wp2_with fail
          exact ⟨rfl, _, rfl, Below.refl _ _, rfl⟩
        refine HSteps.cons ?_ ?_
        · intro f w' hb hU
          obtain ⟨g', u11⟩ : ∃ (g' : Nat), f 66 = .slice (some ⟨g', 0, none⟩) 0 0 := hU.get ⟨11, .data⟩ (by simp) rfl
          obtain u15 : f 70 = .slice (some ⟨b6, o6 + 4, none⟩) L (c6 - 4) := hU.get ⟨15, .data⟩ (by simp) rfl
          obtain u10 : f 65 = .int .u64 (tL tg) := hU.get ⟨10, .chain⟩ (by simp) rfl
          simp only [putAll, List.foldl_cons, List.foldl_nil]
          go_frame
          try simp only [u11, u15, u10]
          go_wp2_with (at_builtin; refine wp_app_empty rfl _ _ 25 rfl 5 _ 1 bytesT g' rfl (some ⟨b6, o6 + 4, none⟩) L (c6 - 4) (py.map byV) (hrp.below hb) rfl (by unfold maxLen; omega) (by omega) ?_; intro A3 c3 w3 hr3 h3 h4 b3; go_frame)
          exact ⟨rfl, _, rfl, b3, A3, c3, rfl, hr3.mono (fun b hbb => Nat.le_trans hb.size hbb), h3, h4⟩
        refine HSteps.cons ?_ ?_
        · intro f w' hb hU
          simp only [putAll, List.foldl_cons, List.foldl_nil]
          go_frame
          go_wp2_with fail
          exact ⟨rfl, _, rfl, Below.refl _ _, rfl⟩
        refine HSteps.cons ?_ ?_
        · intro f w' hb hU
          obtain u17 : f 72 = .int .i64 L := hU.get ⟨17, .data⟩ (by simp) rfl
          obtain ⟨A', c', u16, v16_0, v16_1, v16_2⟩ : ∃ (A' : Option Addr), ∃ (c' : Nat), f 71 = .slice A' L c' ∧ RN (fun b => wr.heap.size ≤ b) w' 1 A' L (py.map byV) ∧ L ≤ c' ∧ c' ≤ 9223372036854775807 := hU.get ⟨16, .chain⟩ (by simp) rfl
          simp only [putAll, List.foldl_cons, List.foldl_nil]
          go_frame
          try simp only [u17, u16]
          go_wp2_with fail
          refine (HSe.out w').mono ?_
          rintro e w3 ⟨rfl, rfl⟩
          go_wp2_with fail
          exact ⟨rfl, _, rfl, Below.refl  _ _, rfl⟩
        refine HSteps.cons ?_ ?_
        · intro f w' hb hU
          obtain u2 : f 57 = .int .u64 (tE tg) := hU.get ⟨2, .data⟩ (by simp) rfl
          obtain u6 : f 61 = .int .u64 (tG tg) := hU.get ⟨6, .data⟩ (by simp) rfl
          obtain u10 : f 65 = .int .u64 (tL tg) := hU.get ⟨10, .data⟩ (by simp) rfl
          obtain ⟨A', c', u16, v16_0, v16_1, v16_2⟩ : ∃ (A' : Option Addr), ∃ (c' : Nat), f 71 = .slice A' L c' ∧ RN (fun b => wr.heap.size ≤ b) w' 1 A' L (py.map byV) ∧ L ≤ c' ∧ c' ≤ 9223372036854775807 := hU.get ⟨16, .data⟩ (by simp) rfl
          obtain u18 : f 73 = .int .i64 K := hU.get ⟨18, .data⟩ (by simp) rfl
          simp only [putAll, List.foldl_cons, List.foldl_nil]
          go_frame
          try simp only [u2, u6, u10, u16, u18]
          go_wp2_with fail
          exact ⟨rfl, _, rfl, Below.refl _ _, A', c', rfl, v16_0, v16_1, v16_2⟩
        refine HSteps.cons ?_ ?_
        · intro f w' hb hU
          have hP : Blk _ w'.heap.size 102 En.zero.cs := Blk.new w' _ _
          have hb3 : Below w'.heap.size w' _ := (Below.refl _ _).alloc (Nat.le_refl _) (.cells (En.zero.cs).toArray 102)
          simp only [putAll, List.foldl_cons, List.foldl_nil]
          go_frame
          go_wp2_with fail
          exact ⟨rfl, _, rfl, hb3, _, rfl, hb.size, hP⟩
        exact HSteps.nil
      case grow =>
        intro kq u wa wb hb hu
        rcases kq with _ | _ | _ | _ | _ | _ | _ | _ | _ | _ | _ | _ | _ | _ | _ | _ | _ | _ | _ | _ | _ | kq
        · exact hu
        · exact hu
        · exact hu
        · exact hu
        · exact hu
        · exact hu
        · exact hu
        · exact hu
        · exact hu
        · exact hu
        · exact hu
        · exact hu
        · exact hu
        · exact hu
        · exact hu
        · exact hu
        · obtain ⟨A', c', ue, uf0, uf1, uf2⟩ := hu
          exact ⟨A', c', ue, uf0.keep hb, uf1, uf2⟩
        · exact hu
        · exact hu
        · obtain ⟨A', c', ue, uf0, uf1, uf2⟩ := hu
          exact ⟨A', c', ue, uf0.keep hb, uf1, uf2⟩
        · obtain ⟨b9, ue, uf0, uf1⟩ := hu
          exact ⟨b9, ue, uf0, uf1.keep hb⟩
        · trivial
      case tail =>
        intro f w7 hb7 hU
        obtain ⟨A', c', u19, v19_0, v19_1, v19_2⟩ : ∃ (A' : Option Addr), ∃ (c' : Nat), f 74 = .agg #[.int .u64 (tE tg), .int .u64 (tG tg), .int .u64 (tL tg), .slice A' L c', .int .i64 K] ∧ RN (fun b => wr.heap.size ≤ b) w7 1 A' L (py.map byV) ∧ L ≤ c' ∧ c' ≤ 9223372036854775807 := hU.get 19 (by decide)
        obtain ⟨b9, u20, v20_0, v20_1⟩ : ∃ (b9 : Nat), f 9 = .pointer (some ⟨b9, 0, none⟩) ∧ wr.heap.size ≤ b9 ∧ Blk w7 b9 102 En.zero.cs := hU.get 20 (by decide)
        simp only [List.drop_succ_cons, List.drop_zero, putAll, List.foldl_cons, List.foldl_nil]
        go_frame
        simp only [u19, u20]
        clear u19 u20
        clear hU
        have m0 := kr.keep hb7
        have C := hbel.trans (hb7.mono hbel.size)
        have n9 : ¬ b9 = w.heap.size := by omega
        have h9 : w.heap.size ≤ b9 := by omega
        clear hb7 kr hr6 hrp ks6
        have hEone : ∀ v ∈ ([.int .u64 (tE tg), .int .u64 (tG tg), .int .u64 (tL tg), .slice A' L c', .int .i64 K] : List Value), v.oneCell' = true := en_one ⟨tE tg, tG tg, tL tg, ⟨A', L, c'⟩, K⟩
        go_wp2_with ((with_reducible refine is_store 102 ?_); refine wp_storeB b9 _ _ [.int .u64 (tE tg), .int .u64 (tG tg), .int .u64 (tL tg), .slice A' L c', .int .i64 K] v20_1 enN rfl hEone rfl rfl ?_; intro w8 q9 r8; go_frame)
        have q0 := m0.grown r8 (by simpa using n9)
        have C8 := C.grown r8 C.size (fun k hk => by cases hk; exact h9)
        have sp : SlR (fun b => wr.heap.size ≤ b) w7 ⟨A', L, c'⟩ py := ⟨v19_0, v19_1, v19_2⟩
        have hb9 := q9.lt
        have HM : Hid (∀ b o, A' = some ⟨b, o, none⟩ → 0 < L → wr.heap.size ≤ b) := hid v19_0.2
        have hwr : w.heap.size < wr.heap.size := by have := hg1; omega
        have sp8 : RN (fun b => b ≠ w.heap.size) w8 1 A' L (py.map byV) := ⟨RB.apart v19_0.1 v20_1 en_no r8, fun b o h1 h2 => by have := HM.out b o h1 h2; omega⟩
        have sA : SlR (fun b => b < w.heap.size) w ⟨A, 128 * N, c⟩ all := ((⟨RN.all hr, hnc, hcm⟩ : SlR (fun _ => True) w ⟨A, 128 * N, c⟩ all).lt).mono (fun b hb => hb.2)
        have sA2 := sl_cut sA (k := 128 * j) (by omega)
        obtain ⟨A8, hA8⟩ : ∃ z, (if c = 128 * j then A else A.map (·.add (128 * j))) = z := ⟨_, rfl⟩
        rw [hA8] at sA2
        have sA3 := sA2.r.pre (k := 128 * K) (by show 128 * K ≤ 128 * N - 128 * j; omega)
        rw [Nat.mul_one, ← List.map_take, HEq.out] at sA3
        have q8 : RN (fun b => b ≠ w.heap.size) w8 1 A8 (128 * K) (gs.flatten.map byV) := (sA3.keep C8).mono fun b hb => by omega
        obtain ⟨c8, hc8⟩ : ∃ z, c - 128 * j = z := ⟨_, rfl⟩
        have ks8 : Hid (∀ wx, (Instr.slice 25 (.slice A (128 * N) c) (some (.int .i64 ((j : Int) * 128))) (some (.int .i64 ((j : Int) * 128 + 128 * (K : Int)))) none).run Tryd.prog wx = .ok (.slice A8 (128 * K) c8) wx) := hid fun wx => by
          have := run_part (P := Tryd.prog) 25 5 Tryd.underlying25 bytesN A (128 * N) c (128 * j) (128 * j + 128 * K) .i64 .i64 ((j : Int) * 128) ((j : Int) * 128 + 128 * (K : Int)) (by omega) (by omega) (by omega) (by omega) wx
          rw [hA8, hc8, show 128 * j + 128 * K - 128 * j = 128 * K by omega] at this
          exact this
        have HBy : Hid (∀ A' c' w', RL w' 1 A' L (py.map byV) → Calls Tryd.prog 11 #[.int .u64 (tE tg), .int .u64 (tG tg), .int .u64 (tL tg), .slice A' L c'] w' fun ex w'' => ∃ v, ex = .returned v ∧ w''.ownsRow w'.heap.size 5 1 v (128 * K) ((recSecs tg py).flatten.map byV) ∧ Below w'.heap.size w' w'') := hid fun A' c' w' hh => by
          have R := refBytes_any (tE tg) (tG tg) (tL tg) A' L c' py w' l1 l2 l3 hh hL1
          rw [HTB.out, HK.out] at R
          exact R
        obtain ⟨GF, hGF⟩ : ∃ z, gs.flatten = z := ⟨_, rfl⟩
        have HGF := hid hGF
        rw [hGF] at q8
        clear hGF
        obtain ⟨BB, hBB⟩ : ∃ z, (recSecs tg py).flatten = z := ⟨_, rfl⟩
        have HBB := hid hBB
        rw [hBB] at HBy
        clear hBB
        have bd : Below w8.heap.size w8 w8.drew := (Below.refl _ _).drew
        have qp := sp8
        clear v20_1 v20_0 v19_0 m0 C r8 sA sA2 sA3 hA8 hc8 sp8
        go_wp2_with fail
        refine wp_region_free 96 [75, 76, 77, 78, 79, 80, 81, 82, 83, 84, 85, 86, 87, 88, 89, 90, 91, 92, 93, 94, 95, 5] (fun kq => ([(fun f w' => f 75 = .agg #[.int .u64 (tE tg), .int .u64 (tG tg), .int .u64 (tL tg), .slice A' L c', .int .i64 K]), (fun f w' => f 76 = .slice A (128 * N) c), (fun f w' => f 77 = .int .i64 ((j : Int) * 128)), (fun f w' => f 78 = .int .i64 ((j : Int) * 128)), (fun f w' => f 79 = .pointer (some ⟨b9, 4, none⟩)), (fun f w' => f 80 = .int .i64 K), (fun f w' => f 81 = .int .i64 (128 * (K : Int))), (fun f w' => f 82 = .int .i64 ((j : Int) * 128 + 128 * (K : Int))), (fun f w' => f 83 = .slice A8 (128 * K) c8), (fun f w' => f 84 = str GF), (fun f w' => f 85 = .pointer (some ⟨b9, 0, none⟩)), (fun f w' => f 86 = .int .u64 (tE tg)), (fun f w' => f 87 = .pointer (some ⟨b9, 1, none⟩)), (fun f w' => f 88 = .int .u64 (tG tg)), (fun f w' => f 89 = .pointer (some ⟨b9, 2, none⟩)), (fun f w' => f 90 = .int .u64 (tL tg)), (fun f w' => f 91 = .pointer (some ⟨b9, 3, none⟩)), (fun f w' => f 92 = .slice A' L c'), (fun f w' => ∃ (A5 : Option Addr), ∃ (c5 : Nat), f 93 = .slice A5 (128 * K) c5 ∧ RN (fun b => b ≠ w.heap.size) w' 1 A5 (128 * K) (BB.map byV)), (fun f w' => f 94 = str BB), (fun f w' => f 95 = .bool (GF == BB)), (fun f w' => Blk w' w.heap.size 102 [.int .u64 (tE tg), .int .u64 (tG tg), .int .u64 (tL tg), .slice A' L c', .int .i64 K]), (fun f w' => f 5 = .bool (GF == BB))] : List ((Nat → Value) → World → Prop)).getD kq (fun _ _ => True))
          (fun w' => (Blk w' b9 102 [.int .u64 (tE tg), .int .u64 (tG tg), .int .u64 (tL tg), .slice A' L c', .int .i64 K]) ∧ (RN (fun b => b ≠ w.heap.size) w' 1 A8 (128 * K) (GF.map byV)) ∧ (RN (fun b => b ≠ w.heap.size) w' 1 A' L (py.map byV)) ∧ (Below w.heap.size w w') ∧ (w.heap.size < w'.heap.size)) (fun w' => Blk w' w.heap.size 102 En.zero.cs) (by kernel_rfl) rfl (by kernel_rfl) ?_ ?_ ?_ ?_ ?_ ?_ ?_ ?_
        · intro kq f wa wb hb hu
          rcases kq with _ | _ | _ | _ | _ | _ | _ | _ | _ | _ | _ | _ | _ | _ | _ | _ | _ | _ | _ | _ | _ | _ | _ | kq
          · exact hu
          · exact hu
          · exact hu
          · exact hu
          · exact hu
          · exact hu
          · exact hu
          · exact hu
          · exact hu
          · exact hu
          · exact hu
          · exact hu
          · exact hu
          · exact hu
          · exact hu
          · exact hu
          · exact hu
          · exact hu
          · obtain ⟨A5, c5, ue, uf0⟩ := hu
            exact ⟨A5, c5, ue, uf0.keep hb⟩
          · exact hu
          · exact hu
          · exact hu.keep hb
          · exact hu
          · trivial
        · rintro wa wb hb ⟨h0, h1, h2, h3, h4⟩
          exact ⟨h0.keep hb, h1.keep hb, h2.keep hb, h3.trans (hb.mono h3.size), Nat.lt_of_lt_of_le h4 hb.size⟩
        · exact fun wa wb hb h => h.keep hb
        · exact ⟨q9.keep bd, q8.keep bd, qp.keep bd, C8.drew, Nat.lt_of_lt_of_le q0.lt bd.size⟩
        · exact q0.keep bd
        · intro kq o hk f w' hB hP hU
          obtain ⟨hB0, hB1, hB2, hB3, hB4⟩ := hB
          rcases kq with _ | _ | _ | _ | _ | _ | _ | _ | _ | _ | _ | _ | _ | _ | _ | _ | _ | _ | _ | _ | _ | _ | _ | kq
          · simp only [List.getElem?_cons_zero, List.getElem?_cons_succ, Option.some.injEq] at hk
            subst hk
            obtain ⟨x0', x1', x2', x3', x4'⟩ := hB0.c5
            have lb := hB0.lt
            simp only [putAll, List.foldl_cons, List.foldl_nil]
            go_frame
            go_wp2_with fail
            exact ⟨rfl, .inl ⟨rfl, _, rfl, Below.refl _ _, fun f' h => h _ rfl⟩⟩
          · simp only [List.getElem?_cons_zero, List.getElem?_cons_succ, Option.some.injEq] at hk
            subst hk
            simp only [putAll, List.foldl_cons, List.foldl_nil]
            go_frame
            go_wp2_with fail
            exact ⟨rfl, .inl ⟨rfl, _, rfl, Below.refl _ _, fun f' h => h _ rfl⟩⟩
          · simp only [List.getElem?_cons_zero, List.getElem?_cons_succ, Option.some.injEq] at hk
            subst hk
            simp only [putAll, List.foldl_cons, List.foldl_nil]
            go_frame
            go_wp2_with fail
            exact ⟨rfl, .inl ⟨rfl, _, rfl, Below.refl _ _, fun f' h => h _ rfl⟩⟩
          · simp only [List.getElem?_cons_zero, List.getElem?_cons_succ, Option.some.injEq] at hk
            subst hk
            simp only [putAll, List.foldl_cons, List.foldl_nil]
            go_frame
            go_wp2_with fail
            exact ⟨rfl, .inl ⟨rfl, _, rfl, Below.refl _ _, fun f' h => h _ rfl⟩⟩
          · simp only [List.getElem?_cons_zero, List.getElem?_cons_succ, Option.some.injEq] at hk
            subst hk
            simp only [putAll, List.foldl_cons, List.foldl_nil]
            go_frame
            go_wp2_with fail
            exact ⟨rfl, .inl ⟨rfl, _, rfl, Below.refl _ _, fun f' h => h _ rfl⟩⟩
          · simp only [List.getElem?_cons_zero, List.getElem?_cons_succ, Option.some.injEq] at hk
            subst hk
            obtain u4 : f 79 = .pointer (some ⟨b9, 4, none⟩) := hU ⟨4, .data⟩ (by simp) rfl
            obtain ⟨x0', x1', x2', x3', x4'⟩ := hB0.c5
            have lb := hB0.lt
            simp only [putAll, List.foldl_cons, List.foldl_nil]
            go_frame
            simp only [u4]
            go_wp2_with fail
            exact ⟨rfl, .inl ⟨rfl, _, rfl, Below.refl _ _, fun f' h => h _ rfl⟩⟩
          · simp only [List.getElem?_cons_zero, List.getElem?_cons_succ, Option.some.injEq] at hk
            subst hk
            obtain u5 : f 80 = .int .i64 K := hU ⟨5, .data⟩ (by simp) rfl
            simp only [putAll, List.foldl_cons, List.foldl_nil]
            go_frame
            simp only [u5]
            go_wp2_with fail
            exact ⟨rfl, .inl ⟨rfl, _, rfl, Below.refl _ _, fun f' h => h _ rfl⟩⟩
          · simp only [List.getElem?_cons_zero, List.getElem?_cons_succ, Option.some.injEq] at hk
            subst hk
            obtain u3 : f 78 = .int .i64 ((j : Int) * 128) := hU ⟨3, .data⟩ (by simp) rfl
            obtain u6 : f 81 = .int .i64 (128 * (K : Int)) := hU ⟨6, .data⟩ (by simp) rfl
            simp only [putAll, List.foldl_cons, List.foldl_nil]
            go_frame
            simp only [u3, u6]
            go_wp2_with fail
            exact ⟨rfl, .inl ⟨rfl, _, rfl, Below.refl _ _, fun f' h => h _ rfl⟩⟩
          · simp only [List.getElem?_cons_zero, List.getElem?_cons_succ, Option.some.injEq] at hk
            subst hk
            obtain u1 : f 76 = .slice A (128 * N) c := hU ⟨1, .data⟩ (by simp) rfl
            obtain u2 : f 77 = .int .i64 ((j : Int) * 128) := hU ⟨2, .data⟩ (by simp) rfl
            obtain u7 : f 82 = .int .i64 ((j : Int) * 128 + 128 * (K : Int)) := hU ⟨7, .data⟩ (by simp) rfl
            have ks := ks8.out
            simp only [putAll, List.foldl_cons, List.foldl_nil]
            go_frame
            simp only [u1, u2, u7]
            go_wp2_with fail
            exact ⟨rfl, .inl ⟨rfl, _, rfl, Below.refl _ _, fun f' h => h _ rfl⟩⟩
          · simp only [List.getElem?_cons_zero, List.getElem?_cons_succ, Option.some.injEq] at hk
            subst hk
            obtain u8 : f 83 = .slice A8 (128 * K) c8 := hU ⟨8, .data⟩ (by simp) rfl
            have k1 := run_str hB1.1 25 9 5 c8 Tryd.underlying25 Tryd.underlying5 Tryd.underlying9
            simp only [putAll, List.foldl_cons, List.foldl_nil]
            go_frame
            simp only [u8]
            go_wp2_with fail
            exact ⟨rfl, .inl ⟨rfl, _, rfl, Below.refl _ _, fun f' h => h _ rfl⟩⟩
          · simp only [List.getElem?_cons_zero, List.getElem?_cons_succ, Option.some.injEq] at hk
            subst hk
            simp only [putAll, List.foldl_cons, List.foldl_nil]
            go_frame
            go_wp2_with fail
            exact ⟨rfl, .inl ⟨rfl, _, rfl, Below.refl _ _, fun f' h => h _ rfl⟩⟩
          · simp only [List.getElem?_cons_zero, List.getElem?_cons_succ, Option.some.injEq] at hk
            subst hk
            obtain u10 : f 85 = .pointer (some ⟨b9, 0, none⟩) := hU ⟨10, .data⟩ (by simp) rfl
            obtain ⟨x0', x1', x2', x3', x4'⟩ := hB0.c5
            have lb := hB0.lt
            simp only [putAll, List.foldl_cons, List.foldl_nil]
            go_frame
            simp only [u10]
            go_wp2_with fail
            exact ⟨rfl, .inl ⟨rfl, _, rfl, Below.refl _ _, fun f' h => h _ rfl⟩⟩
          · simp only [List.getElem?_cons_zero, List.getElem?_cons_succ, Option.some.injEq] at hk
            subst hk
            simp only [putAll, List.foldl_cons, List.foldl_nil]
            go_frame
            go_wp2_with fail
            exact ⟨rfl, .inl ⟨rfl, _, rfl, Below.refl _ _, fun f' h => h _ rfl⟩⟩
          · simp only [List.getElem?_cons_zero, List.getElem?_cons_succ, Option.some.injEq] at hk
            subst hk
            obtain u12 : f 87 = .pointer (some ⟨b9, 1, none⟩) := hU ⟨12, .data⟩ (by simp) rfl
            obtain ⟨x0', x1', x2', x3', x4'⟩ := hB0.c5
            have lb := hB0.lt
            simp only [putAll, List.foldl_cons, List.foldl_nil]
            go_frame
            simp only [u12]
            go_wp2_with fail
            exact ⟨rfl, .inl ⟨rfl, _, rfl, Below.refl _ _, fun f' h => h _ rfl⟩⟩
          · simp only [List.getElem?_cons_zero, List.getElem?_cons_succ, Option.some.injEq] at hk
            subst hk
            simp only [putAll, List.foldl_cons, List.foldl_nil]
            go_frame
            go_wp2_with fail
            exact ⟨rfl, .inl ⟨rfl, _, rfl, Below.refl _ _, fun f' h => h _ rfl⟩⟩
          · simp only [List.getElem?_cons_zero, List.getElem?_cons_succ, Option.some.injEq] at hk
            subst hk
            obtain u14 : f 89 = .pointer (some ⟨b9, 2, none⟩) := hU ⟨14, .data⟩ (by simp) rfl
            obtain ⟨x0', x1', x2', x3', x4'⟩ := hB0.c5
            have lb := hB0.lt
            simp only [putAll, List.foldl_cons, List.foldl_nil]
            go_frame
            simp only [u14]
            go_wp2_with fail
            exact ⟨rfl, .inl ⟨rfl, _, rfl, Below.refl _ _, fun f' h => h _ rfl⟩⟩
          · simp only [List.getElem?_cons_zero, List.getElem?_cons_succ, Option.some.injEq] at hk
            subst hk
            simp only [putAll, List.foldl_cons, List.foldl_nil]
            go_frame
            go_wp2_with fail
            exact ⟨rfl, .inl ⟨rfl, _, rfl, Below.refl _ _, fun f' h => h _ rfl⟩⟩
          · simp only [List.getElem?_cons_zero, List.getElem?_cons_succ, Option.some.injEq] at hk
            subst hk
            obtain u16 : f 91 = .pointer (some ⟨b9, 3, none⟩) := hU ⟨16, .data⟩ (by simp) rfl
            obtain ⟨x0', x1', x2', x3', x4'⟩ := hB0.c5
            have lb := hB0.lt
            simp only [putAll, List.foldl_cons, List.foldl_nil]
            go_frame
            simp only [u16]
            go_wp2_with fail
            exact ⟨rfl, .inl ⟨rfl, _, rfl, Below.refl _ _, fun f' h => h _ rfl⟩⟩
          · simp only [List.getElem?_cons_zero, List.getElem?_cons_succ, Option.some.injEq] at hk
            subst hk
            obtain u11 : f 86 = .int .u64 (tE tg) := hU ⟨11, .data⟩ (by simp) rfl
            obtain u13 : f 88 = .int .u64 (tG tg) := hU ⟨13, .data⟩ (by simp) rfl
            obtain u15 : f 90 = .int .u64 (tL tg) := hU ⟨15, .data⟩ (by simp) rfl
            obtain u17 : f 92 = .slice A' L c' := hU ⟨17, .data⟩ (by simp) rfl
            have R := HBy.out A' c' w' hB2.1
            simp only [putAll, List.foldl_cons, List.foldl_nil]
            go_frame
            simp only [u11, u13, u15, u17]
            go_wp2_with fail
            refine (R).mono ?_
            rintro e w3 ⟨v3, rfl, hown3, b3⟩; have hr3' := hown3; obtain ⟨A3, c3, rfl, hr3, _, _⟩ := own_form hown3
            go_wp2_with fail
            exact ⟨rfl, .inl ⟨rfl, _, rfl, b3, fun f' h => by first | exact ⟨A3, c3, h _ rfl, RN.own hr3' (fun b hb => Nat.ne_of_gt (Nat.lt_of_lt_of_le hB4 hb))⟩ | exact ⟨A3, ⟨c3, h _ rfl⟩, RN.own hr3' (fun b hb => Nat.ne_of_gt (Nat.lt_of_lt_of_le hB4 hb))⟩⟩⟩
          · simp only [List.getElem?_cons_zero, List.getElem?_cons_succ, Option.some.injEq] at hk
            subst hk
            obtain ⟨A5, c5, u18, v18_0⟩ : ∃ (A5 : Option Addr), ∃ (c5 : Nat), f 93 = .slice A5 (128 * K) c5 ∧ RN (fun b => b ≠ w.heap.size) w' 1 A5 (128 * K) (BB.map byV) := hU ⟨18, .data⟩ (by simp) rfl
            have k1 := run_str v18_0.1 25 9 5 c5 Tryd.underlying25 Tryd.underlying5 Tryd.underlying9
            simp only [putAll, List.foldl_cons, List.foldl_nil]
            go_frame
            simp only [u18]
            go_wp2_with fail
            exact ⟨rfl, .inl ⟨rfl, _, rfl, Below.refl _ _, fun f' h => h _ rfl⟩⟩
          · simp only [List.getElem?_cons_zero, List.getElem?_cons_succ, Option.some.injEq] at hk
            subst hk
            obtain u9 : f 84 = str GF := hU ⟨9, .data⟩ (by simp) rfl
            obtain u19 : f 94 = str BB := hU ⟨19, .data⟩ (by simp) rfl
            simp only [putAll, List.foldl_cons, List.foldl_nil]
            go_frame
            simp only [u9, u19]
            go_wp2_with fail
            exact ⟨rfl, .inl ⟨rfl, _, rfl, Below.refl _ _, fun f' h => h _ rfl⟩⟩
          · simp only [List.getElem?_cons_zero, List.getElem?_cons_succ, Option.some.injEq] at hk
            subst hk
            obtain u0 : f 75 = .agg #[.int .u64 (tE tg), .int .u64 (tG tg), .int .u64 (tL tg), .slice A' L c', .int .i64 K] := hU ⟨0, .data⟩ (by simp) rfl
            have hP := hP (by kernel_rfl)
            simp only [putAll, List.foldl_cons, List.foldl_nil]
            go_frame
            simp only [u0]
            go_wp2_with ((with_reducible refine is_store 102 ?_); refine wp_storeB w.heap.size _ _ [.int .u64 (tE tg), .int .u64 (tG tg), .int .u64 (tL tg), .slice A' L c', .int .i64 K] hP enN rfl hEone rfl rfl ?_; intro w4 k44 r4; go_frame)
            refine ⟨rfl, .inr ⟨rfl, rfl, ⟨hB0.grown r4 (by simp; omega), hB1.grown r4 (fun g hg => by cases hg; simp), hB2.grown r4 (fun g hg => by cases hg; simp), hB3.grown r4 hB3.size (fun q hq => by cases hq; exact Nat.le_refl _), (by have := r4.size; omega)⟩, k44, ?_⟩⟩
            intro j f' hj hu
            rcases j with _ | _ | _ | _ | _ | _ | _ | _ | _ | _ | _ | _ | _ | _ | _ | _ | _ | _ | _ | _ | _ | _ | _ | j
            · exact hu
            · exact hu
            · exact hu
            · exact hu
            · exact hu
            · exact hu
            · exact hu
            · exact hu
            · exact hu
            · exact hu
            · exact hu
            · exact hu
            · exact hu
            · exact hu
            · exact hu
            · exact hu
            · exact hu
            · exact hu
            · first | (obtain ⟨A5, c5, ue, uf0⟩ := hu; exact ⟨A5, c5, ue, uf0.grown r4 (fun g hg => by cases hg; simp)⟩) | (obtain ⟨A5, ue, uf0⟩ := hu; exact ⟨A5, ue, uf0.grown r4 (fun g hg => by cases hg; simp)⟩)
            · exact hu
            · exact hu
            · exact absurd rfl hj
            · exact hu
            · trivial
          · simp only [List.getElem?_cons_zero, List.getElem?_cons_succ, Option.some.injEq] at hk
            subst hk
            obtain u20 : f 95 = .bool (GF == BB) := hU ⟨20, .data⟩ (by simp) rfl
            simp only [putAll, List.foldl_cons, List.foldl_nil]
            go_frame
            simp only [u20]
            go_wp2_with fail
            exact ⟨rfl, .inl ⟨rfl, _, rfl, Below.refl _ _, fun f' h => h _ rfl⟩⟩
          · simp at hk
        · intro kq o hk f f' w' h hu
          rcases kq with _ | _ | _ | _ | _ | _ | _ | _ | _ | _ | _ | _ | _ | _ | _ | _ | _ | _ | _ | _ | _ | _ | _ | kq
          · simp only [List.getElem?_cons_zero, List.getElem?_cons_succ, Option.some.injEq] at hk
            subst hk
            have ue := hu
            exact (h 75 (.inl rfl)).trans ue
          · simp only [List.getElem?_cons_zero, List.getElem?_cons_succ, Option.some.injEq] at hk
            subst hk
            have ue := hu
            exact (h 76 (.inl rfl)).trans ue
          · simp only [List.getElem?_cons_zero, List.getElem?_cons_succ, Option.some.injEq] at hk
            subst hk
            have ue := hu
            exact (h 77 (.inl rfl)).trans ue
          · simp only [List.getElem?_cons_zero, List.getElem?_cons_succ, Option.some.injEq] at hk
            subst hk
            have ue := hu
            exact (h 78 (.inl rfl)).trans ue
          · simp only [List.getElem?_cons_zero, List.getElem?_cons_succ, Option.some.injEq] at hk
            subst hk
            have ue := hu
            exact (h 79 (.inl rfl)).trans ue
          · simp only [List.getElem?_cons_zero, List.getElem?_cons_succ, Option.some.injEq] at hk
            subst hk
            have ue := hu
            exact (h 80 (.inl rfl)).trans ue
          · simp only [List.getElem?_cons_zero, List.getElem?_cons_succ, Option.some.injEq] at hk
            subst hk
            have ue := hu
            exact (h 81 (.inl rfl)).trans ue
          · simp only [List.getElem?_cons_zero, List.getElem?_cons_succ, Option.some.injEq] at hk
            subst hk
            have ue := hu
            exact (h 82 (.inl rfl)).trans ue
          · simp only [List.getElem?_cons_zero, List.getElem?_cons_succ, Option.some.injEq] at hk
            subst hk
            have ue := hu
            exact (h 83 (.inl rfl)).trans ue
          · simp only [List.getElem?_cons_zero, List.getElem?_cons_succ, Option.some.injEq] at hk
            subst hk
            have ue := hu
            exact (h 84 (.inl rfl)).trans ue
          · simp only [List.getElem?_cons_zero, List.getElem?_cons_succ, Option.some.injEq] at hk
            subst hk
            have ue := hu
            exact (h 85 (.inl rfl)).trans ue
          · simp only [List.getElem?_cons_zero, List.getElem?_cons_succ, Option.some.injEq] at hk
            subst hk
            have ue := hu
            exact (h 86 (.inl rfl)).trans ue
          · simp only [List.getElem?_cons_zero, List.getElem?_cons_succ, Option.some.injEq] at hk
            subst hk
            have ue := hu
            exact (h 87 (.inl rfl)).trans ue
          · simp only [List.getElem?_cons_zero, List.getElem?_cons_succ, Option.some.injEq] at hk
            subst hk
            have ue := hu
            exact (h 88 (.inl rfl)).trans ue
          · simp only [List.getElem?_cons_zero, List.getElem?_cons_succ, Option.some.injEq] at hk
            subst hk
            have ue := hu
            exact (h 89 (.inl rfl)).trans ue
          · simp only [List.getElem?_cons_zero, List.getElem?_cons_succ, Option.some.injEq] at hk
            subst hk
            have ue := hu
            exact (h 90 (.inl rfl)).trans ue
          · simp only [List.getElem?_cons_zero, List.getElem?_cons_succ, Option.some.injEq] at hk
            subst hk
            have ue := hu
            exact (h 91 (.inl rfl)).trans ue
          · simp only [List.getElem?_cons_zero, List.getElem?_cons_succ, Option.some.injEq] at hk
            subst hk
            have ue := hu
            exact (h 92 (.inl rfl)).trans ue
          · simp only [List.getElem?_cons_zero, List.getElem?_cons_succ, Option.some.injEq] at hk
            subst hk
            obtain ⟨A5, c5, ue, uf0⟩ := hu
            exact ⟨A5, c5, (h 93 (.inl rfl)).trans ue, uf0⟩
          · simp only [List.getElem?_cons_zero, List.getElem?_cons_succ, Option.some.injEq] at hk
            subst hk
            have ue := hu
            exact (h 94 (.inl rfl)).trans ue
          · simp only [List.getElem?_cons_zero, List.getElem?_cons_succ, Option.some.injEq] at hk
            subst hk
            have ue := hu
            exact (h 95 (.inl rfl)).trans ue
          · exact hu
          · simp only [List.getElem?_cons_zero, List.getElem?_cons_succ, Option.some.injEq] at hk
            subst hk
            have ue := hu
            exact (h 5 (.inl rfl)).trans ue
          · trivial
        · rintro f w7 ⟨hB0, hB1, hB2, hB3, hB4⟩ hU
          have q22 : f 5 = .bool (GF == BB) := hU 22 _ rfl
          have k7 : Blk w7 w.heap.size 102 [.int .u64 (tE tg), .int .u64 (tG tg), .int .u64 (tL tg), .slice A' L c', .int .i64 K] := hU 21 _ rfl
          simp only [putAll, List.foldl_cons, List.foldl_nil]
          go_frame
          simp only [q22]
          clear hU q22
          obtain ⟨e0, e1, e2, e3, e4⟩ := k7.c5
          go_wp2_with fail
          refine bodyPost_ret (v := .tuple #[.agg #[.int .u64 (tE tg), .int .u64 (tG tg), .int .u64 (tL tg), .slice A' L c', .int .i64 K], .bool (GF == BB)]) (by simp [results, Tryd.results45, go_sem, e0, e1, e2, e3, e4]) rfl ?_
          rw [HP.out]
          have hiff : (GF == BB) = true ↔ gs = recSecs tg py := by
            rw [beq_iff_eq, ← HGF.out, ← HBB.out]
            exact ⟨fun h => flat_inj HF128.out (recSecs_128 HTL.out py) h, fun h => by rw [h]⟩
          by_cases hh : gs = recSecs tg py
          · rw [if_pos hh]
            refine ⟨⟨tE tg, tG tg, tL tg, ⟨A', L, c'⟩, K⟩, by rw [hiff.2 hh]; rfl, hB3, fun t p k h => ?_⟩
            cases h
            exact ⟨rfl, rfl, rfl, rfl, ⟨hB2.1, fun b o h1 h2 => Nat.le_of_lt (Nat.lt_of_lt_of_le hwr (HM.out b o h1 h2))⟩, v19_1, v19_2⟩
          · rw [if_neg hh]
            refine ⟨⟨tE tg, tG tg, tL tg, ⟨A', L, c'⟩, K⟩, by rw [show (GF == BB) = false from by rw [← Bool.not_eq_true]; exact fun h => hh (hiff.1 h)]; rfl, hB3, fun t p k h => by cases h⟩
/-- Intact of the reference, at every sector -/
theorem refIntact_any (A : Option Addr) (c : Nat) (fs : List (List UInt8)) (j : Nat) (w : World) (hr : RB w A (128 * fs.length) fs.flatten) (h128 : ∀ s ∈ fs, s.length = 128) (hn : fs.length ≤ 1000) (hjm : j ≤ 2000) (hnc : 128 * fs.length ≤ c) (hcm : c ≤ 9223372036854775807) :
    Calls Tryd.prog 45 #[.slice A (128 * fs.length) c, .int .i64 ((j : Int) * 128)] w fun e w' => rintE (intactP (fs.drop j)) e w w' := by
  by_cases h1 : fs.length ≤ j
  · exact refIntact_out A c fs j w hr hn h1 hjm
  · by_cases h2 : 8192 < recLen (fs.drop j) ∨ fs.length - j < cnt (recLen (fs.drop j))
    · exact refIntact_no A c fs j w hr h128 hn (by omega) h2
    · exact refIntact_go A c fs j w hr h128 hn (by omega) hnc hcm (by omega) (by omega)
end Go.Proofs.YtlokfndonjldpaaDoor

