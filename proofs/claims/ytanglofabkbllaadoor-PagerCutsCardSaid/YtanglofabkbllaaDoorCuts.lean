/- The walk of PagerCuts. Conditions: the table of remainders is laid; the arguments read. -/
import Derived.Test.YtanglofabkbllaaDoorLaw
import Derived.Test.YtanglofabkbllaaDoorIs
import Derived.Test.YtanglofabkbllaaDoorBody
import Derived.Test.YtanglofabkbllaaDoorActO
import Derived.Test.YtanglofabkbllaaDoorEncode
import Derived.Test.YtanglofabkbllaaDoorHeadA
set_option linter.unusedSimpArgs false
set_option linter.unusedVariables false
namespace Go.Proofs.YtanglofabkbllaaDoor
open Go.RowKit

set_option maxRecDepth 100000 in
set_option maxHeartbeats 24000000 in
theorem cuts_walk (n0 : Nat) (A : Option Addr) (m c : Nat) (X : List Ac) (aa : Ac) (w : World) (hT : Tab w) (hn0 : n0 ≤ 255) (hX : X.length = m) (hr : RL w 5 A m (X.flatMap Ac.cs)) (hok : ∀ x ∈ X, x.ok) (hmc : m ≤ c) (hcm : c ≤ 9223372036854775807) (hmm : m * 16 ≤ 140737488351232) (ha : aa.ok) :
    Calls Tryd.prog 8 #[.int .u8 n0, .slice A m c, aa.val] w fun e w' => e = .returned (.bool true) ∧ Below w.heap.size w w' := by
  have HTb := hid hT
  have HR := hid hr
  have HX := hid hX
  have HOK := hid hok
  have HAo := hid ha
  clear hT hr hX hok ha
  unfold Ac.val
  go_enter Tryd.func8, Tryd.ntmps8
  go_upto_region 1 with fail
  have kb : Blk (w.alloc (.cells aa.cs.toArray 66)) w.heap.size 66 aa.cs := Blk.new w _ _
  have B0 : Below w.heap.size w (w.alloc (.cells aa.cs.toArray 66)) := (Below.refl _ _).alloc (Nat.le_refl _) _
  obtain ⟨w1, hw1⟩ : ∃ z, w.alloc (.cells aa.cs.toArray 66) = z := ⟨_, rfl⟩
  have hw1' : w.alloc (.cells #[.int .u8 aa.o, .int .u8 aa.n, .int .u8 aa.f, .int .u16 aa.l, .int .u64 aa.ch] 66) = w1 := hw1
  rw [hw1] at kb B0
  rw [hw1']
  clear hw1 hw1'
  have HR1 := hid (fun w' (hb : Below w1.heap.size w1 w') => HR.out.below (B0.trans (hb.mono B0.size)))
  have lb := kb.lt
  obtain ⟨gb, hgb⟩ : ∃ z, w.heap.size = z := ⟨_, rfl⟩
  have HGB := hid hgb
  rw [hgb] at kb lb ⊢
  clear hgb
  refine wp_region_head 188 5 [24, 25, 26, 27, 28] [] ((fun kq => ([fun u w' => ∃ (e0 : Nat), u = .slice (some ⟨e0, 0, none⟩) 0 0 ∧ OwnA w1.heap.size w' (.slice (some ⟨e0, 0, none⟩) 0 0) 0 [], fun u w' => u = .slice A m c, fun u w' => ∃ (v6 : Value), u = v6 ∧ OwnA w1.heap.size w' v6 m X, fun u w' => u = .agg #[.int .u8 aa.o, .int .u8 aa.n, .int .u8 aa.f, .int .u16 aa.l, .int .u64 aa.ch], fun u w' => ∃ (e1 : Nat), u = .slice (some ⟨e1, 0, none⟩) 1 1 ∧ Blk w' e1 66 aa.cs] : List (Value → World → Prop)).getD kq (fun _ _ => True))) (by kernel_rfl) rfl (by kernel_rfl) (.inl rfl) ?grow ?step ?tail
  case step =>
    simp only [List.take_succ_cons, List.take_zero]
    refine HSteps.cons ?_ ?_
    · intro f w' hb hU
      have hN := OwnA.new w1.heap.size w' hb.size
      have hb3 : Below w'.heap.size w' _ := (Below.refl _ _).alloc (Nat.le_refl _) (.cells #[] 66)
      simp only [putAll, List.foldl_cons, List.foldl_nil]
      go_frame
      go_wp2_with fail
      exact ⟨rfl, _, rfl, hb3, _, rfl, hN⟩
    refine HSteps.cons ?_ ?_
    · intro f w' hb hU
      simp only [putAll, List.foldl_cons, List.foldl_nil]
      go_frame
      go_wp2_with fail
      exact ⟨rfl, _, rfl, Below.refl _ _, rfl⟩
    refine HSteps.cons ?_ ?_
    · intro f w' hb hU
      obtain ⟨e0, u0, v0_0⟩ : ∃ (e0 : Nat), f 24 = .slice (some ⟨e0, 0, none⟩) 0 0 ∧ OwnA w1.heap.size w' (.slice (some ⟨e0, 0, none⟩) 0 0) 0 [] := hU.get ⟨0, .data⟩ (by simp) rfl
      obtain u1 : f 25 = .slice A m c := hU.get ⟨1, .data⟩ (by simp) rfl
      simp only [putAll, List.foldl_cons, List.foldl_nil]
      go_frame
      try simp only [u0, u1]
      go_wp2_with (at_builtin; refine wp_app_emptyN rfl _ _ 52 rfl w1.heap.size 66 _ 5 16 actT e0 v0_0 rfl A m c _ (HR1.out w' hb) rfl (by unfold maxLen; omega) (by omega) hb.size ?_; intro v6 w6 own6 b6; go_frame)
      exact ⟨rfl, _, rfl, b6, v6, rfl, own6⟩
    refine HSteps.cons ?_ ?_
    · intro f w' hb hU
      obtain ⟨b0, b1, b2, b3, b4⟩ := (kb.keep hb).c5
      simp only [putAll, List.foldl_cons, List.foldl_nil]
      go_frame
      go_wp2_with fail
      exact ⟨rfl, _, rfl, Below.refl _ _, rfl⟩
    refine HSteps.cons ?_ ?_
    · intro f w' hb hU
      obtain u3 : f 27 = .agg #[.int .u8 aa.o, .int .u8 aa.n, .int .u8 aa.f, .int .u16 aa.l, .int .u64 aa.ch] := hU.get ⟨3, .data⟩ (by simp) rfl
      have hN : Blk _ w'.heap.size 66 aa.cs := Blk.new w' _ _
      have hb3 : Below w'.heap.size w' _ := (Below.refl _ _).alloc (Nat.le_refl _) (.cells aa.cs.toArray 66)
      simp only [putAll, List.foldl_cons, List.foldl_nil]
      go_frame
      try simp only [u3]
      go_wp2_with fail
      exact ⟨rfl, _, rfl, hb3, _, rfl, hN⟩
    exact HSteps.nil
  case grow =>
    intro kq u wa wb hb hu
    rcases kq with _ | _ | _ | _ | _ | kq
    · obtain ⟨e0, ue, uf0⟩ := hu
      exact ⟨e0, ue, uf0.keep hb⟩
    · exact hu
    · obtain ⟨v6, ue, uf0⟩ := hu
      exact ⟨v6, ue, uf0.keep hb⟩
    · exact hu
    · obtain ⟨e1, ue, uf0⟩ := hu
      exact ⟨e1, ue, uf0.keep hb⟩
    · trivial
  case tail =>
    intro f w7 hb7 hU
    obtain ⟨v6, u2, v2_0⟩ : ∃ (v6 : Value), f 26 = v6 ∧ OwnA w1.heap.size w7 v6 m X := hU.get 2 (by decide)
    obtain ⟨e1, u4, v4_0⟩ : ∃ (e1 : Nat), f 28 = .slice (some ⟨e1, 0, none⟩) 1 1 ∧ Blk w7 e1 66 aa.cs := hU.get 4 (by decide)
    simp only [List.drop_succ_cons, List.drop_zero, putAll, List.foldl_cons, List.foldl_nil]
    go_frame
    simp only [u2, u4]
    clear u2 u4
    clear hU
    have kb7 := kb.keep hb7
    have B7 := B0.trans (hb7.mono B0.size)
    have hs7 := hb7.size
    clear kb B0 hb7
    have l7 := kb7.lt
    obtain ⟨b0, b1, b2, b3, b4⟩ := kb7.c5
    go_wp2_with (at_builtin; refine wp_appN rfl _ _ 52 rfl w1.heap.size 66 _ 5 16 actT _ m _ v2_0 rfl (some ⟨e1, 0, none⟩) 1 1 aa.cs (Blk.rl v4_0 0 1 5 (by simp [Ac.cs])) rfl (ac_one aa) (by unfold maxLen; omega) (by omega) hs7 ?_; intro v8 w8 own8 r8 a8; go_frame)
    have q6 : ∀ g, v6.ownBlock = some g → w1.heap.size ≤ g := fun g hg => (World.ownsRow.lt (show w7.ownsRow w1.heap.size 66 5 v6 m (X.flatMap Ac.cs) from v2_0) g hg).1
    have kb8 := Blk.grown kb7 r8 (fun hq => by have := q6 _ hq; omega)
    have B8 := B7.grown r8 B7.size (fun g hg => by have := q6 g hg; have := HGB.out; omega)
    obtain ⟨A8, c8, rfl, hr8, hc1, hc2⟩ := own_formN own8
    have hX8 : (X ++ [aa]).length = m + 1 := by rw [List.length_append, HX.out]; rfl
    have FW := few_any A8 (m + 1) c8 (X ++ [aa]) w8 hX8 (by rw [List.flatMap_append]; simpa using hr8) hc1 hc2
    clear own8 r8 a8 q6 hr8 hc1 hc2 v2_0 v4_0 b0 b1 b2 b3 b4 B7 kb7 hs7 l7 HR1 hX8
    cases hf : fewB (X ++ [aa]) with
    | false =>
      rw [hf] at FW
      refine FW.mono ?_
      rintro e w9 ⟨rfl, b9⟩
      have B9 := B8.trans (b9.mono B8.size)
      go_wp2_with fail
      refine (awake_any w9 (HTb.out.keep B9)).mono ?_
      rintro e w2 ⟨rfl, b2⟩
      go_wp2_with fail
      go_ret
      exact ⟨rfl, B9.trans (b2.mono B9.size)⟩
    | true =>
      rw [hf] at FW
      have HF0 := few_yes hf
      have hm29 : m ≤ 29 := by have := HF0.1; rw [List.length_append, HX.out] at this; simp at this; omega
      have HF := hid (And.intro hm29 (fun x hx => HF0.2 x (List.mem_append_left _ hx)))
      clear HF0 hf
      refine FW.mono ?_
      clear FW
      rintro e w9 ⟨rfl, b9⟩
      have kb9 := kb8.keep b9
      have B := B8.trans (b9.mono B8.size)
      clear b9 B8 kb8
      obtain ⟨b0, b1, b2, b3, b4⟩ := kb9.c5
      have l9 := kb9.lt
      by_cases hal : 256 < aa.l
      · have t1 : ((aa.l : Int) > 256) := by omega
        go_wp2_with fail
        refine (awake_any w9 (HTb.out.keep B)).mono ?_
        rintro e w2 ⟨rfl, b2⟩
        go_wp2_with fail
        go_ret
        exact ⟨rfl, B.trans (b2.mono B.size)⟩
      · have t1 : ¬ ((aa.l : Int) > 256) := by omega
        obtain ⟨nn, hnn⟩ : ∃ z, n0 % 6 = z := ⟨_, rfl⟩
        have q1 : (n0 : Int).tmod 6 = (nn : Int) := by rw [Int.tmod_eq_emod_of_nonneg (by omega)]; omega
        have h1 : nn < 6 := by omega
        clear hnn
        obtain ⟨q, hq⟩ : ∃ z, nn + 1 = z := ⟨_, rfl⟩
        have q3 := IntWalk.i64_in (nn : Int) (by omega)
        have q4 : (nn : Int) + 1 = (q : Int) := by omega
        have q5 := IntWalk.i64_in (q : Int) (by omega)
        have hq1 : 1 ≤ q ∧ q ≤ 6 := by omega
        clear hq h1
        go_wp2_with fail
        have R := begin_any (M := fun _ => True) q 1 w9 (HTb.out.keep B) (fun _ _ => trivial) hq1.1 (by omega) (by omega)
        try rw [show ((1 : Nat) : Int) = 1 from rfl] at R
        refine R.mono ?_
        clear R
        rintro e w2 ⟨F, x, D, rfl, H, bb2⟩
        have B2 := B.trans (bb2.mono B.size)
        have kb2 := kb9.keep bb2
        clear bb2 B b0 b1 b2 b3 b4 l9 kb9
        have hp := H.sim.pok
        have HH := hid (H.lt.mono (M' := fun b => b ≠ w2.heap.size) (fun b hb => Nat.ne_of_lt hb.2))
        clear H q1 q3 q4 q5
        generalize 1 + 8 * (q + 2) + 1 = N at HH
        have lb2 := kb2.lt
        go_wp2_with (first
          | ((with_reducible refine is_alloc 63 ?_); refine wp_allocB (w := w2) _ arrSto ?_; intro w3 k3 b3 s3; go_frame)
          | ((with_reducible refine is_store 63 ?_); refine wp_storeT w2.heap.size _ x hp k3 (by rw [StV.cs_len Pgr.zero_ok]) rfl rfl ?_; intro w4 k4 r4; go_frame; have l4 := k4.lt))
        have hgz := B2.size
        have ba : Below w2.heap.size w2 w4 := b3.grown r4 b3.size (fun z hz => by cases hz; exact Nat.le_refl _)
        have B4 := B2.trans (ba.mono B2.size)
        have kb4 := kb2.keep ba
        replace HH := hid (HH.out.keep ba)
        clear b3 s3 k3 r4 ba B2 kb2
        generalize w2.heap.size = G at *
        have hgG : ¬ gb = G ∧ ¬ G = gb := by omega
        go_loopw [8, 48] (fun okv i wr => ∃ (k : Nat) (x : StV) (D : Dk) (S : RS), k ≤ m ∧ i = .int .i64 k ∧ okv = .bool true ∧ Blk wr G 63 x.cs ∧ Blk wr gb 66 aa.cs ∧ Hid (Sto F k 1 q N (fun b => b ≠ G) wr x D S) ∧ Below w.heap.size w wr) (fun _ i _ => m - (intOf i).toNat)
        case atStart => exact ⟨0, x, D, RS.new q, Nat.zero_le _, rfl, rfl, k4, kb4, HH, B4⟩
        case round =>
          clear HH B4 k4 hp kb4
          obtain ⟨k, x, D, S, hk, rfl, rfl, kx, kb, HH, hbel⟩ := hrel
          have hm29 := HF.out.1
          by_cases hlt : k < m
          · obtain ⟨b, off, a, rfl, hbb, hx, hcell⟩ := (HR.out.below hbel).el (f := Ac.cs) (fun _ => rfl) hlt (by omega)
            have C0 := hcell 0 _ rfl
            have C1 := hcell 1 _ rfl
            have C2 := hcell 2 _ rfl
            have C3 := hcell 3 _ rfl
            have C4 := hcell 4 _ rfl
            rw [Nat.add_zero] at C0
            have hmem := List.mem_of_getElem? hx
            have HA := hid (And.intro (HOK.out a hmem) (HF.out.2 a hmem))
            clear hcell hx hmem
            have tk : (k : Int) < (m : Int) := by omega
            have hp := HH.out.sim.pok
            have hgr : G < wr.heap.size := kx.lt
            have hgb : gb < wr.heap.size := kb.lt
            go_wp2_with (first
              | ((with_reducible refine is_alloc 66 ?_); refine wp_allocB (w := wr) _ arrAct ?_; intro w5 k5 b5 s5; go_frame)
              | ((with_reducible refine is_store 66 ?_); refine wp_storeB wr.heap.size _ _ a.cs k5 actN rfl (ac_one _) rfl rfl ?_; intro w6 k6 r6; go_frame; obtain ⟨a0, a1, a2, a3, a4⟩ := k6.c5; have l6 := k6.lt; have kx6 := (kx.keep b5).grown r6 (by simp; omega))
              | ((with_reducible refine is_load 63 ?_); refine wp_loadT G x hp kx6 rfl ?_; go_frame))
            have ba : Below wr.heap.size wr w6 := b5.grown r6 b5.size (fun z hz => by cases hz; exact Nat.le_refl _)
            have B6 := hbel.trans (ba.mono hbel.size)
            have kb6 := kb.keep ba
            replace HH := hid (HH.out.keep ba)
            clear b5 s5 k5 r6 ba a0 a1 a2 a3 a4 C0 C1 C2 C3 C4 hbel kx l6 k6 kb
            refine (do_any x a D S w6 (HTb.out.keep B6) HH.out (fun b hb => by have := kx6.lt; omega) (by omega) HA.out.1 HA.out.2).mono ?_
            rintro e w7 ⟨y, D', S', rfl, HY0, b7⟩
            have HY := hid HY0.lt
            have hpy := HY0.sim.pok
            have B7 := B6.trans (b7.mono B6.size)
            have kx7 := kx6.keep b7
            have kb7 := kb6.keep b7
            clear HY0 b7 B6 kx6 HH kb6
            have lx7 := kx7.lt
            have lb7 := kb7.lt
            have hs7 := B7.size
            go_wp2_with (first
              | ((with_reducible refine is_alloc 63 ?_); refine wp_allocB (w := w7) _ arrSto ?_; intro w8 k8 b8 s8; go_frame)
              | ((with_reducible refine is_store 63 ?_); refine wp_storeT w7.heap.size _ y hpy k8 (by rw [StV.cs_len Pgr.zero_ok]) rfl rfl ?_; intro w9 k9 r9; go_frame; have l9 := k9.lt; have kx9 := (kx7.keep b8).grown r9 (by simp; omega))
              | ((with_reducible refine is_load 63 ?_); refine wp_loadT w7.heap.size y hpy k9 rfl ?_; go_frame)
              | ((with_reducible refine is_store 63 ?_); refine wp_storeT G _ y hpy kx9 (StV.cs_len hp) rfl rfl ?_; intro w10 kx10 r10; go_frame))
            have kb10 := ((kb7.keep b8).grown r9 (by simp; omega)).grown r10 (by simp; omega)
            have B8 := B7.trans (b8.mono B7.size)
            have B9 := B8.grown r9 B8.size (fun z hz => by cases hz; exact hs7)
            have B10 := B9.grown r10 B9.size (fun z hz => by cases hz; exact hgz)
            have HY10 := (((HY.out.keep b8).var r9 k8 notSto (fun h => by have := h.2; omega)).var r10 kx9 notSto (fun h => h.1 rfl)).mono (M' := fun b => b ≠ G) (fun b hb => hb.1)
            go_roundw
            case measure => simp [intOf]; omega
            case rel => exact ⟨k + 1, y, D', S', by omega, by go_num, rfl, kx10, kb10, hid HY10, B10⟩
          · obtain rfl : k = m := by omega
            have hp := HH.out.sim.pok
            have hsn := HH.out.sim.sok.n
            have hnk := HH.out.sim.numk
            have hn0 := HH.out.sim.num1
            have hkn := HH.out.v.kn
            have haf := HAo.out.f
            have hlx := kx.lt
            have hlb := kb.lt
            have tk : ¬ (k : Int) < (k : Int) := by omega
            have HYK := hid (fun w' (hb : Below wr.heap.size wr w') => (show w'.cell? ⟨G, 271, none⟩ = some (.slice x.v.k.A (S.n + 1) x.v.k.c) by
              have h := StV.rangeV hp (kx.keep hb) 5 _ rfl
              rw [show x.v.k.v = .slice x.v.k.A x.v.k.n x.v.k.c from rfl, hkn.1] at h
              exact h))
            obtain ⟨L, hL⟩ : ∃ z, aa.l = z := ⟨_, rfl⟩
            have hL2 : L ≤ 256 := by omega
            obtain ⟨mt, hmt⟩ : ∃ z, rep L aa.f = z := ⟨_, rfl⟩
            have hmtl : mt.length = L := by rw [← hmt]; exact rep_len _ _
            have HBO := hid (fun w' => bytesOf_any L aa.f w' haf (by omega))
            rw [hmt] at HBO
            obtain ⟨LB, hLB⟩ : ∃ z, 236 + L = z := ⟨_, rfl⟩
            have HBd : Hid (∀ w' gm, Below wr.heap.size wr w' → RB w' (some ⟨gm, 0, none⟩) L mt → Calls Tryd.prog 35 #[.int .i64 0, .slice (some ⟨gm, 0, none⟩) L L, .slice x.v.k.A (S.n + 1) x.v.k.c] w' fun e w'' => ∃ A3 c3, e = .returned (.slice A3 LB c3) ∧ RB w'' A3 LB (rootBody 0 mt x.p.nu) ∧ Below w'.heap.size w' w'') := hid fun w' gm hb hm => by
              have R := refBody_any 0 (some ⟨gm, 0, none⟩) L L mt x.v.k.A (S.n + 1) x.v.k.c S.now w' (by omega) hm hL2 (HH.out.v.k.keep hb).rl (by omega) hkn.2.1 hkn.2.2
              rw [hLB] at R
              refine R.mono fun e w'' ⟨A3, c3, bs, h1, h2, h3, h4, _, _, h5⟩ => ⟨A3, c3, h1, ?_, h5⟩
              have : bs = x.p.nu := bit_ext h2 hp.nu (fun i hi => by rw [h3 i hi, HH.out.sim.nu i hi]; rfl)
              rw [← this]
              exact h4.rl
            have HLB := hid hLB
            have HMT := hid (And.intro hmt hL)
            have hLB2 : LB ≤ 492 := by omega
            have HMl := hid hmtl
            have HKn := hid hkn
            clear hmt hLB hL hkn hmtl
            go_upto_region 10 with fail
            refine wp_region_head 188 11 [64, 65, 66, 67, 68, 69, 70, 71, 72, 73, 13] [] ((fun kq => ([fun u w' => u = .pointer (some ⟨gb, 3, none⟩), fun u w' => u = .int .u16 L, fun u w' => u = .int .i64 L, fun u w' => u = .pointer (some ⟨gb, 2, none⟩), fun u w' => u = .int .u8 aa.f, fun u w' => ∃ (gm : Nat), u = .slice (some ⟨gm, 0, none⟩) L L ∧ RB w' (some ⟨gm, 0, none⟩) L mt, fun u w' => u = .pointer (some ⟨G, 266, none⟩), fun u w' => u = .pointer (some ⟨G, 271, none⟩), fun u w' => u = .slice x.v.k.A (S.n + 1) x.v.k.c, fun u w' => ∃ (A3 : Option Addr), ∃ (c3 : Nat), u = .slice A3 LB c3 ∧ RB w' A3 LB (rootBody 0 mt x.p.nu), fun u w' => ∃ (A3 : Option Addr), ∃ (c3 : Nat), u = .slice A3 LB c3 ∧ RB w' A3 LB (rootBody 0 mt x.p.nu)] : List (Value → World → Prop)).getD kq (fun _ _ => True))) (by kernel_rfl) rfl (by kernel_rfl) (.inl rfl) ?grow ?step ?tail
            case step =>
              simp only [List.take_succ_cons, List.take_zero]
              refine HSteps.cons ?_ ?_
              · intro f w' hb hU
                simp only [putAll, List.foldl_cons, List.foldl_nil]
                go_frame
                go_wp2_with fail
                exact ⟨rfl, _, rfl, Below.refl _ _, rfl⟩
              refine HSteps.cons ?_ ?_
              · intro f w' hb hU
                obtain u0 : f 64 = .pointer (some ⟨gb, 3, none⟩) := hU.get ⟨0, .data⟩ (by simp) rfl
                obtain ⟨b0, b1, b2, b3, b4⟩ := (kb.keep hb).c5
                rw [HMT.out.2] at b3
                simp only [putAll, List.foldl_cons, List.foldl_nil]
                go_frame
                try simp only [u0]
                go_wp2_with fail
                exact ⟨rfl, _, rfl, Below.refl _ _, rfl⟩
              refine HSteps.cons ?_ ?_
              · intro f w' hb hU
                obtain u1 : f 65 = .int .u16 L := hU.get ⟨1, .data⟩ (by simp) rfl
                have qL := IntWalk.i64_in (L : Int) (by omega)
                simp only [putAll, List.foldl_cons, List.foldl_nil]
                go_frame
                try simp only [u1]
                go_wp2_with fail
                exact ⟨rfl, _, rfl, Below.refl _ _, rfl⟩
              refine HSteps.cons ?_ ?_
              · intro f w' hb hU
                simp only [putAll, List.foldl_cons, List.foldl_nil]
                go_frame
                go_wp2_with fail
                exact ⟨rfl, _, rfl, Below.refl _ _, rfl⟩
              refine HSteps.cons ?_ ?_
              · intro f w' hb hU
                obtain u3 : f 67 = .pointer (some ⟨gb, 2, none⟩) := hU.get ⟨3, .data⟩ (by simp) rfl
                obtain ⟨b0, b1, b2, b3, b4⟩ := (kb.keep hb).c5
                simp only [putAll, List.foldl_cons, List.foldl_nil]
                go_frame
                try simp only [u3]
                go_wp2_with fail
                exact ⟨rfl, _, rfl, Below.refl _ _, rfl⟩
              refine HSteps.cons ?_ ?_
              · intro f w' hb hU
                obtain u2 : f 66 = .int .i64 L := hU.get ⟨2, .data⟩ (by simp) rfl
                obtain u4 : f 68 = .int .u8 aa.f := hU.get ⟨4, .data⟩ (by simp) rfl
                simp only [putAll, List.foldl_cons, List.foldl_nil]
                go_frame
                try simp only [u2, u4]
                go_wp2_with fail
                refine (HBO.out w').mono ?_
                rintro e w3 ⟨gm, rfl, _, _, hgm, b3⟩
                go_wp2_with fail
                exact ⟨rfl, _, rfl, b3, gm, rfl, hgm⟩
              refine HSteps.cons ?_ ?_
              · intro f w' hb hU
                simp only [putAll, List.foldl_cons, List.foldl_nil]
                go_frame
                go_wp2_with fail
                exact ⟨rfl, _, rfl, Below.refl _ _, rfl⟩
              refine HSteps.cons ?_ ?_
              · intro f w' hb hU
                obtain u6 : f 70 = .pointer (some ⟨G, 266, none⟩) := hU.get ⟨6, .data⟩ (by simp) rfl
                simp only [putAll, List.foldl_cons, List.foldl_nil]
                go_frame
                try simp only [u6]
                go_wp2_with fail
                exact ⟨rfl, _, rfl, Below.refl _ _, rfl⟩
              refine HSteps.cons ?_ ?_
              · intro f w' hb hU
                obtain u7 : f 71 = .pointer (some ⟨G, 271, none⟩) := hU.get ⟨7, .data⟩ (by simp) rfl
                have yK := HYK.out w' hb
                simp only [putAll, List.foldl_cons, List.foldl_nil]
                go_frame
                try simp only [u7]
                go_wp2_with fail
                exact ⟨rfl, _, rfl, Below.refl _ _, rfl⟩
              refine HSteps.cons ?_ ?_
              · intro f w' hb hU
                obtain ⟨gm, u5, v5_0⟩ : ∃ (gm : Nat), f 69 = .slice (some ⟨gm, 0, none⟩) L L ∧ RB w' (some ⟨gm, 0, none⟩) L mt := hU.get ⟨5, .data⟩ (by simp) rfl
                obtain u8 : f 72 = .slice x.v.k.A (S.n + 1) x.v.k.c := hU.get ⟨8, .data⟩ (by simp) rfl
                simp only [putAll, List.foldl_cons, List.foldl_nil]
                go_frame
                try simp only [u5, u8]
                go_wp2_with fail
                refine (HBd.out w' gm hb v5_0).mono ?_
                rintro e w3 ⟨A3, c3, rfl, hr3, b3⟩
                go_wp2_with fail
                exact ⟨rfl, _, rfl, b3, A3, c3, rfl, hr3⟩
              refine HSteps.cons ?_ ?_
              · intro f w' hb hU
                obtain ⟨A3, c3, u9, v9_0⟩ : ∃ (A3 : Option Addr), ∃ (c3 : Nat), f 73 = .slice A3 LB c3 ∧ RB w' A3 LB (rootBody 0 mt x.p.nu) := hU.get ⟨9, .data⟩ (by simp) rfl
                obtain u0 : f 64 = .pointer (some ⟨gb, 3, none⟩) := hU.get ⟨0, .phase⟩ (by simp) rfl
                obtain u1 : f 65 = .int .u16 L := hU.get ⟨1, .phase⟩ (by simp) rfl
                obtain u2 : f 66 = .int .i64 L := hU.get ⟨2, .phase⟩ (by simp) rfl
                obtain u3 : f 67 = .pointer (some ⟨gb, 2, none⟩) := hU.get ⟨3, .phase⟩ (by simp) rfl
                obtain u4 : f 68 = .int .u8 aa.f := hU.get ⟨4, .phase⟩ (by simp) rfl
                obtain ⟨gm, u5, v5_0⟩ : ∃ (gm : Nat), f 69 = .slice (some ⟨gm, 0, none⟩) L L ∧ RB w' (some ⟨gm, 0, none⟩) L mt := hU.get ⟨5, .phase⟩ (by simp) rfl
                obtain u6 : f 70 = .pointer (some ⟨G, 266, none⟩) := hU.get ⟨6, .phase⟩ (by simp) rfl
                obtain u7 : f 71 = .pointer (some ⟨G, 271, none⟩) := hU.get ⟨7, .phase⟩ (by simp) rfl
                obtain u8 : f 72 = .slice x.v.k.A (S.n + 1) x.v.k.c := hU.get ⟨8, .phase⟩ (by simp) rfl
                simp only [putAll, List.foldl_cons, List.foldl_nil]
                go_frame
                try simp only [u9, u0, u1, u2, u3, u4, u5, u6, u7, u8]
                go_wp2_with fail
                exact ⟨rfl, _, rfl, Below.refl _ _, A3, ⟨c3, rfl⟩, v9_0⟩
              exact HSteps.nil
            case grow =>
              intro kq u wa wb hb hu
              rcases kq with _ | _ | _ | _ | _ | _ | _ | _ | _ | _ | _ | kq
              · exact hu
              · exact hu
              · exact hu
              · exact hu
              · exact hu
              · obtain ⟨gm, ue, uf0⟩ := hu
                exact ⟨gm, ue, uf0.below hb⟩
              · exact hu
              · exact hu
              · exact hu
              · obtain ⟨A3, c3, ue, uf0⟩ := hu
                exact ⟨A3, c3, ue, uf0.below hb⟩
              · obtain ⟨A3, c3, ue, uf0⟩ := hu
                exact ⟨A3, c3, ue, uf0.below hb⟩
              · trivial
            case tail =>
              intro f w7 hb7 hU
              obtain ⟨A3, c3, u10, v10_0⟩ : ∃ (A3 : Option Addr), ∃ (c3 : Nat), f 13 = .slice A3 LB c3 ∧ RB w7 A3 LB (rootBody 0 mt x.p.nu) := hU.get 10 (by decide)
              simp only [List.drop_succ_cons, List.drop_zero, putAll, List.foldl_cons, List.foldl_nil]
              go_frame
              simp only [u10]
              clear u10
              clear hU
              have kx7 := kx.keep hb7
              have kb7 := kb.keep hb7
              have HH7 := hid (HH.out.keep hb7)
              have B7 := hbel.trans (hb7.mono hbel.size)
              clear kx kb HH hbel HYK HBd hb7 hlx hlb
              have lx7 := kx7.lt
              obtain ⟨nm, hnm⟩ : ∃ z, S.num + 1 = z := ⟨_, rfl⟩
              have qn : IntKind.u64.wrap ((S.num : Int) + 1) = (nm : Int) := by rw [IntKind.wrap_u64]; omega
              have hnm2 : 2 ≤ nm ∧ nm ≤ 31 := by omega
              have yM : w7.cell? ⟨G, 268, none⟩ = some (.int .u64 (S.num : Int)) := by
                have h := StV.rangeV hp kx7 2 _ rfl
                rw [show x.v.num = S.num from HH7.out.v.num] at h
                exact h
              have HNM := hid hnm
              clear hnm
              go_wp2_with fail
              have R := encode_good 0 2 nm A3 LB c3 (rootBody 0 mt x.p.nu) w7 (HTb.out.keep B7) v10_0 (by omega) (by omega) (by omega) (by omega)
              unfold pageV at R
              rw [show ((0 : Nat) : Int) = 0 from rfl, show ((2 : Nat) : Int) = 2 from rfl] at R
              refine R.mono ?_
              clear R
              rintro e w8 ⟨v, rfl, hown, b8⟩
              obtain ⟨A4, c4, rfl, hr4, hc41, hc42⟩ := own_form hown
              have kx8 := kx7.keep b8
              have kb8 := kb7.keep b8
              have HH8 := hid (HH7.out.keep b8)
              have B8 := B7.trans (b8.mono B7.size)
              obtain ⟨E, hE⟩ : ∃ z, encoded 0 nm 2 (rootBody 0 mt x.p.nu) = z := ⟨_, rfl⟩
              have hbl : (rootBody 0 mt x.p.nu).length ≤ 1000 := by rw [rootBody_len, HMl.out, hp.nu]; omega
              have hEl : E.length = 1024 := by rw [← hE]; exact enc_len _ _ _ _ hbl
              rw [hE] at hr4
              have HE := hid hE
              have HEl := hid hEl
              have HBl := hid hbl
              clear hown hE hEl hbl kx7 kb7 HH7 B7 b8 yM lx7 v10_0
              obtain ⟨pm, hpm⟩ : ∃ z, nm % 2 = z := ⟨_, rfl⟩
              have qd : (nm : Int).tmod 2 = (pm : Int) := by rw [Int.tmod_eq_emod_of_nonneg (by omega)]; omega
              have qd2 := IntWalk.i64_in (pm : Int) (by omega)
              obtain ⟨sA, hsA⟩ : ∃ z, 1 + 8 * pm = z := ⟨_, rfl⟩
              have qs0 := IntWalk.i64_in ((8 : Int) * (pm : Int)) (by omega)
              have qs : (1 : Int) + 8 * (pm : Int) = (sA : Int) := by omega
              have qs2 := IntWalk.i64_in (sA : Int) (by omega)
              have HSA : Hid (sA = 1 + 8 * ((S.num + 1) % 2)) := hid (by rw [HNM.out]; omega)
              have hsA2 : sA = 1 ∨ sA = 9 := by omega
              clear hpm hsA
              have yM : w8.cell? ⟨G, 268, none⟩ = some (.int .u64 (S.num : Int)) := by
                have h := StV.rangeV hp kx8 2 _ rfl
                rw [show x.v.num = S.num from HH8.out.v.num] at h
                exact h
              have lx8 := kx8.lt
              go_wp2_with ((with_reducible refine is_load 37 ?_); refine wp_loadTPg G x hp kx8 rfl rfl ?_; go_frame)
              refine (disk_any x.p _).mono ?_
              rintro e w9 ⟨rfl, b9⟩
              go_wp2_with fail
              refine (bytesOf_any 128 0 w9 (by omega) (by omega)).mono ?_
              rintro e w10 ⟨gz, rfl, _, _, hz, b10⟩
              have b910 := b9.trans (b10.mono b9.size)
              go_wp2_with fail
              have hDn := HH8.out.dn
              have hDd := HH8.out.sim.hD
              have hDs := HH8.out.s2
              have hDq := HH8.out.n
              have hWk := HH8.out.sim.Wk
              have hz' : RB w10 (some ⟨gz, 0, none⟩) 128 zero128 := hz
              have hn1 := HH8.out.sim.n1
              have R := write_good x.p.d D (some ⟨gz, 0, none⟩) 128 zero128 sA w10 (HH8.out.d.keep b910) (by omega) hz' (by omega)
              simp only [DV.v] at R ⊢
              refine R.mono ?_
              clear R
              rintro e w11 ⟨d0, rfl, hd0, b11⟩
              have ba := b910.trans (b11.mono b910.size)
              have kx11 := kx8.keep ba
              have kb11 := kb8.keep ba
              have HH11 := hid (HH8.out.keep ba)
              have hr11 : RB w11 A4 1024 E := RL.below hr4 ba
              obtain ⟨b4, o4, eA4, hb4, _⟩ := hr11.2 (by omega)
              subst eA4
              have B11 := B8.trans (ba.mono B8.size)
              clear b9 b10 b910 b11 ba kx8 kb8 HH8 hr4 B8 hz hz' yM lx8
              have lx11 := kx11.lt
              have lb11 := kb11.lt
              obtain ⟨ct, hct⟩ : ∃ z, aa.n % 9 = z := ⟨_, rfl⟩
              have qc : (aa.n : Int).tmod 9 = (ct : Int) := by rw [Int.tmod_eq_emod_of_nonneg (by omega)]; omega
              have qc2 := IntWalk.i64_in (ct : Int) (by omega)
              have hct2 : ct ≤ 8 := by omega
              clear hct
              simp only [DV.v]
              go_wp2_with (first
                | ((with_reducible refine is_alloc 27 ?_); refine wp_allocB (w := w11) _ arrDisk ?_; intro w12 k12 b12 s12; go_frame)
                | ((with_reducible refine is_store 27 ?_); refine wp_storeB w11.heap.size _ _ d0.cs k12 diskN rfl (dv_one _) rfl rfl ?_; intro w13 k13 r13; go_frame; have kb13 := (kb11.keep b12).grown r13 (by simp; omega); obtain ⟨p0, p1, p2, p3, p4⟩ := kb13.c5; have lb13 := kb13.lt))
              have kx13 := (kx11.keep b12).grown r13 (by simp; omega)
              have hd13 := (hd0.keep b12).kept (Kept.grown r13 k12 notDk)
              have hr13 : RB w13 (some ⟨b4, o4, none⟩) 1024 E := RL.grown (RL.below hr11 b12) r13 (fun q hq hn b o hA he => by cases hq; cases hA; omega)
              have HH13 := hid ((HH11.out.lt.keep b12).var r13 k12 notDk (fun h => by have := h.2; omega))
              have hs11 := B11.size
              have B13 := (B11.trans (b12.mono B11.size)).grown r13 (B11.trans (b12.mono B11.size)).size (fun z hz => by cases hz; exact hs11)
              clear kx11 kb11 hr11 HH11 B11 hd0 b12 k12 s12 r13 p0 p1 p2 p3 p4 lb13
              generalize w11.heap.size = GD at *
              have HSim := hid HH13.out.sim
              have HV13 := hid HH13.out.v
              clear HH13
              have hdc : D.W.length ≤ 8 * k := hWk
              have kd13 : Bx w13 GD d0 (cutD D sA E 0) := ⟨k13, hd13⟩
              clear k13 hd13
              go_loopw [20, 21] (fun iv _ wq => ∃ (j : Nat) (d : DV), 1 ≤ j ∧ j ≤ ct + 1 ∧ iv = .int .i64 (j : Int) ∧ Bx wq GD d (cutD D sA E (j - 1)) ∧ Blk wq G 63 x.cs ∧ Blk wq gb 66 aa.cs ∧ RB wq (some ⟨b4, o4, none⟩) 1024 E ∧ Hid (RVr (fun b => b ≠ G ∧ b < GD) wq x.v S) ∧ Below w.heap.size w wq) (fun iv _ _ => ct + 1 - (intOf iv).toNat)
              case atStart => exact ⟨1, d0, by omega, by omega, rfl, kd13, kx13, kb13, hr13, hid (HV13.out.mono (fun b hb => ⟨hb.1, hb.2⟩)), B13⟩
              case round =>
                clear kd13 kx13 kb13 hr13 HV13 B13
                obtain ⟨j, d, h1j, hj, rfl, kd, kx, kb, hrE, HV, hbel⟩ := hrel
                by_cases hlt : j ≤ ct
                · have tj : (j : Int) ≤ (ct : Int) := by omega
                  obtain ⟨r, hr⟩ : ∃ z, j % 8 = z := ⟨_, rfl⟩
                  have hr8 : r < 8 := by omega
                  have qr : (j : Int).tmod 8 = (r : Int) := by rw [Int.tmod_eq_emod_of_nonneg (by omega)]; omega
                  have qr2 := IntWalk.i64_in (r : Int) (by omega)
                  obtain ⟨sk, hsk⟩ : ∃ z, sA + r = z := ⟨_, rfl⟩
                  have qk : (sA : Int) + (r : Int) = (sk : Int) := by omega
                  have qk2 := IntWalk.i64_in (sk : Int) (by omega)
                  have qk3 := IntWalk.i64_in ((128 : Int) * (r : Int)) (by omega)
                  have qk4 := IntWalk.i64_in ((128 : Int) * (r : Int) + 128) (by omega)
                  have qj := IntWalk.i64_in ((j : Int) + 1) (by omega)
                  have n1 : ¬ c4 = 128 * r := by omega
                  have ks : ∀ wx, (Instr.slice 40 (.slice (some ⟨b4, o4, none⟩) 1024 c4) (some (.int .i64 ((128 : Int) * (r : Int)))) (some (.int .i64 ((128 : Int) * (r : Int) + 128))) none).run Tryd.prog wx = .ok (.slice (some ⟨b4, o4 + 128 * r, none⟩) 128 (c4 - 128 * r)) wx := fun wx => by
                    have := run_part (P := Tryd.prog) 40 5 Tryd.underlying40 slN.2.1 (some ⟨b4, o4, none⟩) 1024 c4 (128 * r) (128 * r + 128) .i64 .i64 ((128 : Int) * (r : Int)) ((128 : Int) * (r : Int) + 128) (by omega) (by omega) (by omega) (by omega) wx
                    rw [if_neg n1, show 128 * r + 128 - 128 * r = 128 by omega] at this
                    simpa [add_spot] using this
                  have HWg : Hid (∀ (d' : DV) (D' : Dk) (w' : World), DkV w' d' D' → D'.n = N → D'.W.length ≤ 100000 → RB w' (some ⟨b4, o4, none⟩) 1024 E → Calls Tryd.prog 22 #[d'.v, .int .i64 sk, .slice (some ⟨b4, o4 + 128 * r, none⟩) 128 (c4 - 128 * r)] w' fun e w'' => ∃ dy : DV, e = .returned (.tuple #[dy.v, .int .i64 0]) ∧ DkV w'' dy (D'.write sk ((E.drop (128 * r)).take 128)) ∧ Below w'.heap.size w' w'') :=
                    hid fun d' D' w' h1 h2 h3 h4 => write_good d' D' _ _ _ sk w' h1 (by rw [h2]; omega) (RB.sub h4 (128 * r) 128 (by omega)) (by omega)
                  have hcn := cutD_n D sA E (j - 1)
                  have hcW := cutD_W D sA E (j - 1) (by omega)
                  have HST := hid (cutD_step D sA E (j - 1) (by omega))
                  rw [show j - 1 + 1 = j by omega, hr, hsk] at HST
                  clear n1 hr hsk
                  have lD := kd.k.lt
                  obtain ⟨sy, hsy⟩ : ∃ z, decide (j = 1 ∨ j = 8) = z := ⟨_, rfl⟩
                  have HSY := hid hsy
                  clear hsy
                  go_upto_region 20 with fail
                  go_cut [126] (fun a wx => a = .bool sy ∧ wr = wx)
                  case first =>
                    have hsy := HSY.out
                    clear HSY
                    by_cases c1 : j = 1
                    · have t1 : ((j : Int) == 1) = true := by rw [beq_iff_eq]; omega
                      obtain rfl : sy = true := by rw [← hsy]; simp [c1]
                      clear hsy c1
                      go_wp2_with fail
                      go_meet
                      case rel => exact ⟨rfl, rfl⟩
                    · have t1 : ((j : Int) == 1) = false := by rw [beq_eq_false_iff_ne]; omega
                      by_cases c8 : j = 8
                      · have t8 : ((j : Int) == 8) = true := by rw [beq_iff_eq]; omega
                        obtain rfl : sy = true := by rw [← hsy]; simp [c8]
                        clear hsy c1 c8
                        go_wp2_with fail
                        go_meet
                        case rel => exact ⟨rfl, rfl⟩
                      · have t8 : ((j : Int) == 8) = false := by rw [beq_eq_false_iff_ne]; omega
                        obtain rfl : sy = false := by rw [← hsy]; simp [c1, c8]
                        clear hsy c1 c8
                        go_wp2_with fail
                        go_meet
                        case rel => exact ⟨rfl, rfl⟩
                  case rest =>
                    obtain ⟨rfl, rfl⟩ := hcut
                    cases sy with
                    | false =>
                      have h18 : ¬ (j - 1 = 0 ∨ j - 1 = 7) := by have := of_decide_eq_false HSY.out; omega
                      rw [if_neg h18] at HST
                      obtain ⟨DC, hDC⟩ : ∃ z, cutD D sA E (j - 1) = z := ⟨_, rfl⟩
                      rw [hDC] at HST hcn hcW kd
                      have hDCn : DC.n = N := by omega
                      have hDCW : DC.W.length ≤ 100000 := by omega
                      clear hDC h18 hcn hcW
                      go_wp2_with fail
                      refine wp_region_headF 188 15 [132, 133, 134, 135, 136, 137, 138, 139, 140, 141, 142, 143, 131, 144, 145] [14] ((fun kq => ([fun u w' => u = d.v, fun u w' => u = .int .i64 (sA : Int), fun u w' => u = .int .i64 (r : Int), fun u w' => u = .int .i64 (sk : Int), fun u w' => u = .slice (some ⟨b4, o4, none⟩) 1024 c4, fun u w' => u = .int .i64 (r : Int), fun u w' => u = .int .i64 ((128 : Int) * (r : Int)), fun u w' => u = .int .i64 (r : Int), fun u w' => u = .int .i64 ((128 : Int) * (r : Int)), fun u w' => u = .int .i64 ((128 : Int) * (r : Int) + 128), fun u w' => u = .slice (some ⟨b4, o4 + 128 * r, none⟩) 128 (c4 - 128 * r), fun u w' => ∃ (dy : DV), u = .tuple #[dy.v, .int .i64 0] ∧ DkV w' dy (DC.write sk ((E.drop (128 * r)).take 128)), fun u w' => ∃ (dy : DV), u = .tuple #[dy.v, .int .i64 0] ∧ DkV w' dy (DC.write sk ((E.drop (128 * r)).take 128)), fun u w' => ∃ (dy : DV), u = dy.v ∧ DkV w' dy (DC.write sk ((E.drop (128 * r)).take 128)), fun u w' => u = .int .i64 0] : List (Value → World → Prop)).getD kq (fun _ _ => True))) (by kernel_rfl) rfl (by kernel_rfl) ?grow ?step ?tail
                      case step =>
                        simp only [List.take_succ_cons, List.take_zero]
                        refine HSteps.cons ?_ ?_
                        · intro f w' hb hU
                          obtain ⟨x0', x1', x2', x3', x4'⟩ := (kd.k.keep hb).c5
                          simp only [putAll, List.foldl_cons, List.foldl_nil]
                          go_frame
                          go_wp2_with fail
                          exact ⟨rfl, _, rfl, Below.refl _ _, rfl⟩
                        refine HSteps.cons ?_ ?_
                        · intro f w' hb hU
                          simp only [putAll, List.foldl_cons, List.foldl_nil]
                          go_frame
                          go_wp2_with fail
                          exact ⟨rfl, _, rfl, Below.refl _ _, rfl⟩
                        refine HSteps.cons ?_ ?_
                        · intro f w' hb hU
                          simp only [putAll, List.foldl_cons, List.foldl_nil]
                          go_frame
                          go_wp2_with fail
                          exact ⟨rfl, _, rfl, Below.refl _ _, rfl⟩
                        refine HSteps.cons ?_ ?_
                        · intro f w' hb hU
                          obtain u1 : f 133 = .int .i64 (sA : Int) := hU.get ⟨1, .data⟩ (by simp) rfl
                          obtain u2 : f 134 = .int .i64 (r : Int) := hU.get ⟨2, .data⟩ (by simp) rfl
                          simp only [putAll, List.foldl_cons, List.foldl_nil]
                          go_frame
                          try simp only [u1, u2]
                          go_wp2_with fail
                          exact ⟨rfl, _, rfl, Below.refl _ _, rfl⟩
                        refine HSteps.cons ?_ ?_
                        · intro f w' hb hU
                          simp only [putAll, List.foldl_cons, List.foldl_nil]
                          go_frame
                          go_wp2_with fail
                          exact ⟨rfl, _, rfl, Below.refl _ _, rfl⟩
                        refine HSteps.cons ?_ ?_
                        · intro f w' hb hU
                          simp only [putAll, List.foldl_cons, List.foldl_nil]
                          go_frame
                          go_wp2_with fail
                          exact ⟨rfl, _, rfl, Below.refl _ _, rfl⟩
                        refine HSteps.cons ?_ ?_
                        · intro f w' hb hU
                          obtain u5 : f 137 = .int .i64 (r : Int) := hU.get ⟨5, .data⟩ (by simp) rfl
                          simp only [putAll, List.foldl_cons, List.foldl_nil]
                          go_frame
                          try simp only [u5]
                          go_wp2_with fail
                          exact ⟨rfl, _, rfl, Below.refl _ _, rfl⟩
                        refine HSteps.cons ?_ ?_
                        · intro f w' hb hU
                          simp only [putAll, List.foldl_cons, List.foldl_nil]
                          go_frame
                          go_wp2_with fail
                          exact ⟨rfl, _, rfl, Below.refl _ _, rfl⟩
                        refine HSteps.cons ?_ ?_
                        · intro f w' hb hU
                          obtain u7 : f 139 = .int .i64 (r : Int) := hU.get ⟨7, .data⟩ (by simp) rfl
                          simp only [putAll, List.foldl_cons, List.foldl_nil]
                          go_frame
                          try simp only [u7]
                          go_wp2_with fail
                          exact ⟨rfl, _, rfl, Below.refl _ _, rfl⟩
                        refine HSteps.cons ?_ ?_
                        · intro f w' hb hU
                          obtain u8 : f 140 = .int .i64 ((128 : Int) * (r : Int)) := hU.get ⟨8, .data⟩ (by simp) rfl
                          simp only [putAll, List.foldl_cons, List.foldl_nil]
                          go_frame
                          try simp only [u8]
                          go_wp2_with fail
                          exact ⟨rfl, _, rfl, Below.refl _ _, rfl⟩
                        refine HSteps.cons ?_ ?_
                        · intro f w' hb hU
                          obtain u4 : f 136 = .slice (some ⟨b4, o4, none⟩) 1024 c4 := hU.get ⟨4, .data⟩ (by simp) rfl
                          obtain u6 : f 138 = .int .i64 ((128 : Int) * (r : Int)) := hU.get ⟨6, .data⟩ (by simp) rfl
                          obtain u9 : f 141 = .int .i64 ((128 : Int) * (r : Int) + 128) := hU.get ⟨9, .data⟩ (by simp) rfl
                          simp only [putAll, List.foldl_cons, List.foldl_nil]
                          go_frame
                          try simp only [u4, u6, u9]
                          go_wp2_with fail
                          exact ⟨rfl, _, rfl, Below.refl _ _, rfl⟩
                        refine HSteps.cons ?_ ?_
                        · intro f w' hb hU
                          obtain u0 : f 132 = d.v := hU.get ⟨0, .data⟩ (by simp) rfl
                          obtain u3 : f 135 = .int .i64 (sk : Int) := hU.get ⟨3, .data⟩ (by simp) rfl
                          obtain u10 : f 142 = .slice (some ⟨b4, o4 + 128 * r, none⟩) 128 (c4 - 128 * r) := hU.get ⟨10, .data⟩ (by simp) rfl
                          simp only [putAll, List.foldl_cons, List.foldl_nil]
                          go_frame
                          try simp only [u0, u3, u10]
                          go_wp2_with fail
                          refine (HWg.out _ _ w' (kd.d.keep hb) hDCn hDCW (RL.below hrE hb)).mono ?_
                          rintro e w3 ⟨dy, rfl, hdy, b3⟩
                          go_wp2_with fail
                          exact ⟨rfl, _, rfl, b3, dy, rfl, hdy⟩
                        refine HSteps.cons ?_ ?_
                        · intro f w' hb hU
                          obtain ⟨dy, u11, v11_0⟩ : ∃ (dy : DV), f 143 = .tuple #[dy.v, .int .i64 0] ∧ DkV w' dy (DC.write sk ((E.drop (128 * r)).take 128)) := hU.get ⟨11, .data⟩ (by simp) rfl
                          simp only [putAll, List.foldl_cons, List.foldl_nil]
                          go_frame
                          try simp only [u11]
                          go_wp2_with fail
                          exact ⟨rfl, _, rfl, Below.refl _ _, dy, rfl, v11_0⟩
                        refine HSteps.cons ?_ ?_
                        · intro f w' hb hU
                          obtain ⟨dy, u12, v12_0⟩ : ∃ (dy : DV), f 131 = .tuple #[dy.v, .int .i64 0] ∧ DkV w' dy (DC.write sk ((E.drop (128 * r)).take 128)) := hU.get ⟨12, .data⟩ (by simp) rfl
                          simp only [putAll, List.foldl_cons, List.foldl_nil]
                          go_frame
                          try simp only [u12]
                          go_wp2_with fail
                          exact ⟨rfl, _, rfl, Below.refl _ _, dy, rfl, v12_0⟩
                        refine HSteps.cons ?_ ?_
                        · intro f w' hb hU
                          obtain ⟨dy, u12, v12_0⟩ : ∃ (dy : DV), f 131 = .tuple #[dy.v, .int .i64 0] ∧ DkV w' dy (DC.write sk ((E.drop (128 * r)).take 128)) := hU.get ⟨12, .data⟩ (by simp) rfl
                          simp only [putAll, List.foldl_cons, List.foldl_nil]
                          go_frame
                          try simp only [u12]
                          go_wp2_with fail
                          exact ⟨rfl, _, rfl, Below.refl _ _, rfl⟩
                        exact HSteps.nil
                      case grow =>
                        intro kq u wa wb hb hu
                        rcases kq with _ | _ | _ | _ | _ | _ | _ | _ | _ | _ | _ | _ | _ | _ | _ | kq
                        · exact hu
                        · exact hu
                        · exact hu
                        · exact hu
                        · exact hu
                        · exact hu
                        · exact hu
                        · exact hu
                        · exact hu
                        · exact hu
                        · exact hu
                        · obtain ⟨dy, ue, uf0⟩ := hu
                          exact ⟨dy, ue, uf0.keep hb⟩
                        · obtain ⟨dy, ue, uf0⟩ := hu
                          exact ⟨dy, ue, uf0.keep hb⟩
                        · obtain ⟨dy, ue, uf0⟩ := hu
                          exact ⟨dy, ue, uf0.keep hb⟩
                        · exact hu
                        · trivial
                      case tail =>
                        intro f w7 hb7 hU
                        obtain ⟨dy, u13, v13_0⟩ : ∃ (dy : DV), f 144 = dy.v ∧ DkV w7 dy (DC.write sk ((E.drop (128 * r)).take 128)) := hU.get 13 (by decide)
                        simp only [List.drop_succ_cons, List.drop_zero, putAll, List.foldl_cons, List.foldl_nil]
                        go_frame
                        simp only [u13]
                        clear u13
                        clear hU
                        have kd7 := kd.k.keep hb7
                        have kx7 := kx.keep hb7
                        have kb7 := kb.keep hb7
                        have hrE7 : RB w7 (some ⟨b4, o4, none⟩) 1024 E := RL.below hrE hb7
                        have HV7 := hid (HV.out.keep hb7)
                        have B7 := hbel.trans (hb7.mono hbel.size)
                        clear kd kx kb hrE HV hbel hb7
                        go_wp2_with ((with_reducible refine is_store 27 ?_); refine wp_storeB GD _ _ dy.cs kd7 diskN rfl (dv_one _) rfl rfl ?_; intro w8 k8 r8; go_frame)
                        refine noPanic_ok ?_
                        have hd8 := v13_0.kept (Kept.grown r8 kd7 notDk)
                        rw [HST.out] at hd8
                        have kx8 := kx7.grown r8 (by simp; omega)
                        have kb8 := kb7.grown r8 (by simp; omega)
                        have hrE8 : RB w8 (some ⟨b4, o4, none⟩) 1024 E := RL.grown hrE7 r8 (fun q hq hn b o hA he => by cases hq; cases hA; omega)
                        have HV8 := hid (HV7.out.grown r8 (fun g hg h => by cases hg; have := h.2; omega))
                        have B8 := B7.grown r8 B7.size (fun z hz => by cases hz; exact hs11)
                        clear kd7 kx7 kb7 hrE7 HV7 B7 r8 v13_0
                        go_wp2_with fail
                        go_roundw
                        case measure => simp [intOf]; omega
                        case rel => exact ⟨j + 1, dy, by omega, by omega, by go_num, ⟨k8, by rw [Nat.add_sub_cancel]; exact hd8⟩, kx8, kb8, hrE8, HV8, B8⟩
                    | true =>
                      have h18 : j - 1 = 0 ∨ j - 1 = 7 := by have := of_decide_eq_true HSY.out; omega
                      rw [if_pos h18] at HST
                      obtain ⟨y0, y1, y2, y3, y4⟩ := kd.k.c5
                      go_wp2_with fail
                      have R := sync_any d wr
                      simp only [DV.v] at R
                      refine R.mono ?_
                      clear R y0 y1 y2 y3 y4
                      rintro e w5 ⟨rfl, b5⟩
                      replace kd := kd.keep b5
                      replace kx := kx.keep b5
                      replace kb := kb.keep b5
                      have hrE5 : RB w5 (some ⟨b4, o4, none⟩) 1024 E := RL.below hrE b5
                      replace HV := hid (HV.out.keep b5)
                      replace hbel := hbel.trans (b5.mono hbel.size)
                      clear b5 hrE lD
                      go_wp2_with ((with_reducible refine is_store 27 ?_); refine wp_storeB GD _ _ d.sync.cs kd.k diskN rfl (dv_one _) rfl rfl ?_; intro w6 k6 r6; go_frame)
                      replace kx := kx.grown r6 (by simp; omega)
                      replace kb := kb.grown r6 (by simp; omega)
                      have hrE : RB w6 (some ⟨b4, o4, none⟩) 1024 E := RL.grown hrE5 r6 (fun q hq hn b o hA he => by cases hq; cases hA; omega)
                      replace HV := hid (HV.out.grown r6 (fun g hg h => by cases hg; have := h.2; omega))
                      replace kd : Bx w6 GD d.sync (cutD D sA E (j - 1)).sync := ⟨k6, kd.d.sync.kept (Kept.grown r6 kd.k notDk)⟩
                      replace hbel := hbel.grown r6 hbel.size (fun z hz => by cases hz; have := hs11; omega)
                      obtain ⟨DC, hDC⟩ : ∃ z, (cutD D sA E (j - 1)).sync = z := ⟨_, rfl⟩
                      have hDCn : DC.n = N := by rw [← hDC]; show (cutD D sA E (j - 1)).n = N; omega
                      have hDCW : DC.W.length ≤ 100000 := by rw [← hDC]; show 0 ≤ _; omega
                      rw [hDC] at HST kd
                      obtain ⟨ds, hds⟩ : ∃ z, d.sync = z := ⟨_, rfl⟩
                      rw [hds] at kd
                      clear hDC h18 hcn hcW r6 k6 hrE5 hds
                      have lD := kd.k.lt
                      obtain ⟨wv, hwv⟩ : ∃ z, z = w6 := ⟨_, rfl⟩
                      subst hwv
                      refine wp_region_headF 188 15 [132, 133, 134, 135, 136, 137, 138, 139, 140, 141, 142, 143, 131, 144, 145] [14] ((fun kq => ([fun u w' => u = ds.v, fun u w' => u = .int .i64 (sA : Int), fun u w' => u = .int .i64 (r : Int), fun u w' => u = .int .i64 (sk : Int), fun u w' => u = .slice (some ⟨b4, o4, none⟩) 1024 c4, fun u w' => u = .int .i64 (r : Int), fun u w' => u = .int .i64 ((128 : Int) * (r : Int)), fun u w' => u = .int .i64 (r : Int), fun u w' => u = .int .i64 ((128 : Int) * (r : Int)), fun u w' => u = .int .i64 ((128 : Int) * (r : Int) + 128), fun u w' => u = .slice (some ⟨b4, o4 + 128 * r, none⟩) 128 (c4 - 128 * r), fun u w' => ∃ (dy : DV), u = .tuple #[dy.v, .int .i64 0] ∧ DkV w' dy (DC.write sk ((E.drop (128 * r)).take 128)), fun u w' => ∃ (dy : DV), u = .tuple #[dy.v, .int .i64 0] ∧ DkV w' dy (DC.write sk ((E.drop (128 * r)).take 128)), fun u w' => ∃ (dy : DV), u = dy.v ∧ DkV w' dy (DC.write sk ((E.drop (128 * r)).take 128)), fun u w' => u = .int .i64 0] : List (Value → World → Prop)).getD kq (fun _ _ => True))) (by kernel_rfl) rfl (by kernel_rfl) ?grow ?step ?tail
                      case step =>
                        simp only [List.take_succ_cons, List.take_zero]
                        refine HSteps.cons ?_ ?_
                        · intro f w' hb hU
                          obtain ⟨x0', x1', x2', x3', x4'⟩ := (kd.k.keep hb).c5
                          simp only [putAll, List.foldl_cons, List.foldl_nil]
                          go_frame
                          go_wp2_with fail
                          exact ⟨rfl, _, rfl, Below.refl _ _, rfl⟩
                        refine HSteps.cons ?_ ?_
                        · intro f w' hb hU
                          simp only [putAll, List.foldl_cons, List.foldl_nil]
                          go_frame
                          go_wp2_with fail
                          exact ⟨rfl, _, rfl, Below.refl _ _, rfl⟩
                        refine HSteps.cons ?_ ?_
                        · intro f w' hb hU
                          simp only [putAll, List.foldl_cons, List.foldl_nil]
                          go_frame
                          go_wp2_with fail
                          exact ⟨rfl, _, rfl, Below.refl _ _, rfl⟩
                        refine HSteps.cons ?_ ?_
                        · intro f w' hb hU
                          obtain u1 : f 133 = .int .i64 (sA : Int) := hU.get ⟨1, .data⟩ (by simp) rfl
                          obtain u2 : f 134 = .int .i64 (r : Int) := hU.get ⟨2, .data⟩ (by simp) rfl
                          simp only [putAll, List.foldl_cons, List.foldl_nil]
                          go_frame
                          try simp only [u1, u2]
                          go_wp2_with fail
                          exact ⟨rfl, _, rfl, Below.refl _ _, rfl⟩
                        refine HSteps.cons ?_ ?_
                        · intro f w' hb hU
                          simp only [putAll, List.foldl_cons, List.foldl_nil]
                          go_frame
                          go_wp2_with fail
                          exact ⟨rfl, _, rfl, Below.refl _ _, rfl⟩
                        refine HSteps.cons ?_ ?_
                        · intro f w' hb hU
                          simp only [putAll, List.foldl_cons, List.foldl_nil]
                          go_frame
                          go_wp2_with fail
                          exact ⟨rfl, _, rfl, Below.refl _ _, rfl⟩
                        refine HSteps.cons ?_ ?_
                        · intro f w' hb hU
                          obtain u5 : f 137 = .int .i64 (r : Int) := hU.get ⟨5, .data⟩ (by simp) rfl
                          simp only [putAll, List.foldl_cons, List.foldl_nil]
                          go_frame
                          try simp only [u5]
                          go_wp2_with fail
                          exact ⟨rfl, _, rfl, Below.refl _ _, rfl⟩
                        refine HSteps.cons ?_ ?_
                        · intro f w' hb hU
                          simp only [putAll, List.foldl_cons, List.foldl_nil]
                          go_frame
                          go_wp2_with fail
                          exact ⟨rfl, _, rfl, Below.refl _ _, rfl⟩
                        refine HSteps.cons ?_ ?_
                        · intro f w' hb hU
                          obtain u7 : f 139 = .int .i64 (r : Int) := hU.get ⟨7, .data⟩ (by simp) rfl
                          simp only [putAll, List.foldl_cons, List.foldl_nil]
                          go_frame
                          try simp only [u7]
                          go_wp2_with fail
                          exact ⟨rfl, _, rfl, Below.refl _ _, rfl⟩
                        refine HSteps.cons ?_ ?_
                        · intro f w' hb hU
                          obtain u8 : f 140 = .int .i64 ((128 : Int) * (r : Int)) := hU.get ⟨8, .data⟩ (by simp) rfl
                          simp only [putAll, List.foldl_cons, List.foldl_nil]
                          go_frame
                          try simp only [u8]
                          go_wp2_with fail
                          exact ⟨rfl, _, rfl, Below.refl _ _, rfl⟩
                        refine HSteps.cons ?_ ?_
                        · intro f w' hb hU
                          obtain u4 : f 136 = .slice (some ⟨b4, o4, none⟩) 1024 c4 := hU.get ⟨4, .data⟩ (by simp) rfl
                          obtain u6 : f 138 = .int .i64 ((128 : Int) * (r : Int)) := hU.get ⟨6, .data⟩ (by simp) rfl
                          obtain u9 : f 141 = .int .i64 ((128 : Int) * (r : Int) + 128) := hU.get ⟨9, .data⟩ (by simp) rfl
                          simp only [putAll, List.foldl_cons, List.foldl_nil]
                          go_frame
                          try simp only [u4, u6, u9]
                          go_wp2_with fail
                          exact ⟨rfl, _, rfl, Below.refl _ _, rfl⟩
                        refine HSteps.cons ?_ ?_
                        · intro f w' hb hU
                          obtain u0 : f 132 = ds.v := hU.get ⟨0, .data⟩ (by simp) rfl
                          obtain u3 : f 135 = .int .i64 (sk : Int) := hU.get ⟨3, .data⟩ (by simp) rfl
                          obtain u10 : f 142 = .slice (some ⟨b4, o4 + 128 * r, none⟩) 128 (c4 - 128 * r) := hU.get ⟨10, .data⟩ (by simp) rfl
                          simp only [putAll, List.foldl_cons, List.foldl_nil]
                          go_frame
                          try simp only [u0, u3, u10]
                          go_wp2_with fail
                          refine (HWg.out _ _ w' (kd.d.keep hb) hDCn hDCW (RL.below hrE hb)).mono ?_
                          rintro e w3 ⟨dy, rfl, hdy, b3⟩
                          go_wp2_with fail
                          exact ⟨rfl, _, rfl, b3, dy, rfl, hdy⟩
                        refine HSteps.cons ?_ ?_
                        · intro f w' hb hU
                          obtain ⟨dy, u11, v11_0⟩ : ∃ (dy : DV), f 143 = .tuple #[dy.v, .int .i64 0] ∧ DkV w' dy (DC.write sk ((E.drop (128 * r)).take 128)) := hU.get ⟨11, .data⟩ (by simp) rfl
                          simp only [putAll, List.foldl_cons, List.foldl_nil]
                          go_frame
                          try simp only [u11]
                          go_wp2_with fail
                          exact ⟨rfl, _, rfl, Below.refl _ _, dy, rfl, v11_0⟩
                        refine HSteps.cons ?_ ?_
                        · intro f w' hb hU
                          obtain ⟨dy, u12, v12_0⟩ : ∃ (dy : DV), f 131 = .tuple #[dy.v, .int .i64 0] ∧ DkV w' dy (DC.write sk ((E.drop (128 * r)).take 128)) := hU.get ⟨12, .data⟩ (by simp) rfl
                          simp only [putAll, List.foldl_cons, List.foldl_nil]
                          go_frame
                          try simp only [u12]
                          go_wp2_with fail
                          exact ⟨rfl, _, rfl, Below.refl _ _, dy, rfl, v12_0⟩
                        refine HSteps.cons ?_ ?_
                        · intro f w' hb hU
                          obtain ⟨dy, u12, v12_0⟩ : ∃ (dy : DV), f 131 = .tuple #[dy.v, .int .i64 0] ∧ DkV w' dy (DC.write sk ((E.drop (128 * r)).take 128)) := hU.get ⟨12, .data⟩ (by simp) rfl
                          simp only [putAll, List.foldl_cons, List.foldl_nil]
                          go_frame
                          try simp only [u12]
                          go_wp2_with fail
                          exact ⟨rfl, _, rfl, Below.refl _ _, rfl⟩
                        exact HSteps.nil
                      case grow =>
                        intro kq u wa wb hb hu
                        rcases kq with _ | _ | _ | _ | _ | _ | _ | _ | _ | _ | _ | _ | _ | _ | _ | kq
                        · exact hu
                        · exact hu
                        · exact hu
                        · exact hu
                        · exact hu
                        · exact hu
                        · exact hu
                        · exact hu
                        · exact hu
                        · exact hu
                        · exact hu
                        · obtain ⟨dy, ue, uf0⟩ := hu
                          exact ⟨dy, ue, uf0.keep hb⟩
                        · obtain ⟨dy, ue, uf0⟩ := hu
                          exact ⟨dy, ue, uf0.keep hb⟩
                        · obtain ⟨dy, ue, uf0⟩ := hu
                          exact ⟨dy, ue, uf0.keep hb⟩
                        · exact hu
                        · trivial
                      case tail =>
                        intro f w7 hb7 hU
                        obtain ⟨dy, u13, v13_0⟩ : ∃ (dy : DV), f 144 = dy.v ∧ DkV w7 dy (DC.write sk ((E.drop (128 * r)).take 128)) := hU.get 13 (by decide)
                        simp only [List.drop_succ_cons, List.drop_zero, putAll, List.foldl_cons, List.foldl_nil]
                        go_frame
                        simp only [u13]
                        clear u13
                        clear hU
                        have kd7 := kd.k.keep hb7
                        have kx7 := kx.keep hb7
                        have kb7 := kb.keep hb7
                        have hrE7 : RB w7 (some ⟨b4, o4, none⟩) 1024 E := RL.below hrE hb7
                        have HV7 := hid (HV.out.keep hb7)
                        have B7 := hbel.trans (hb7.mono hbel.size)
                        clear kd kx kb hrE HV hbel hb7
                        go_wp2_with ((with_reducible refine is_store 27 ?_); refine wp_storeB GD _ _ dy.cs kd7 diskN rfl (dv_one _) rfl rfl ?_; intro w8 k8 r8; go_frame)
                        refine noPanic_ok ?_
                        have hd8 := v13_0.kept (Kept.grown r8 kd7 notDk)
                        rw [HST.out] at hd8
                        have kx8 := kx7.grown r8 (by simp; omega)
                        have kb8 := kb7.grown r8 (by simp; omega)
                        have hrE8 : RB w8 (some ⟨b4, o4, none⟩) 1024 E := RL.grown hrE7 r8 (fun q hq hn b o hA he => by cases hq; cases hA; omega)
                        have HV8 := hid (HV7.out.grown r8 (fun g hg h => by cases hg; have := h.2; omega))
                        have B8 := B7.grown r8 B7.size (fun z hz => by cases hz; exact hs11)
                        clear kd7 kx7 kb7 hrE7 HV7 B7 r8 v13_0
                        go_wp2_with fail
                        go_roundw
                        case measure => simp [intOf]; omega
                        case rel => exact ⟨j + 1, dy, by omega, by omega, by go_num, ⟨k8, by rw [Nat.add_sub_cancel]; exact hd8⟩, kx8, kb8, hrE8, HV8, B8⟩
                · obtain rfl : j = ct + 1 := by omega
                  rw [Nat.add_sub_cancel] at kd
                  have tj : ¬ ((ct + 1 : Nat) : Int) ≤ (ct : Int) := by omega
                  have tj2 : ¬ (ct : Int) + 1 ≤ (ct : Int) := by omega
                  have hps : x.p.sec = 1 := hDs
                  have hpn : x.p.num = S.num := HSim.out.num
                  have eE : E = encoded 0 (x.p.num + 1) 2 (rootBody 0 mt x.p.nu) := by rw [hpn, HNM.out]; exact HE.out.symm
                  have eS : sA = x.p.sec + 8 * ((S.num + 1) % 2) := by rw [hps]; exact HSA.out
                  obtain ⟨hl, hhl⟩ : ∃ z, decide (ct = 8 ∧ aa.ch % 3 ≠ 0) = z := ⟨_, rfl⟩
                  obtain ⟨Sf, hSf⟩ : ∃ z : RS, (if hl = true then S.commit 0 mt else S) = z := ⟨_, rfl⟩
                  obtain ⟨DT, hDT⟩ : ∃ z, cutD D sA E ct = z := ⟨_, rfl⟩
                  have HFin : ∃ (ST : Sta) (K : Nat), openOf (DT.crash aa.ch) 1 q = some ST ∧ ∀ dc : DV, Sim F (Pgr.at_ dc 1 q ST) (DT.crash aa.ch) Sf.reopen K := by
                    rw [← hDT, ← hSf]
                    cases hl with
                    | false =>
                      have hno := of_decide_eq_false hhl
                      have SM := HSim.out.cut E aa.ch ct hct2 (fun h => by
                        by_cases h3 : aa.ch % 3 = 0
                        · exact h3
                        · exact absurd ⟨h, h3⟩ hno)
                      rw [← eS] at SM
                      have O := SM.opens
                      have e1 : x.p.back.sec = 1 := hps
                      have e2 : S.reopen.n = q := hDq
                      refine ⟨⟨S.reopen.root, S.reopen.num, S.reopen.mt, x.p.back.cu⟩, k + 1, ?_, fun dc => ?_⟩
                      · rw [e1, e2] at O
                        exact O
                      · have A := SM.again dc
                        rw [e1, e2] at A
                        exact A
                    | true =>
                      have hyes := of_decide_eq_true hhl
                      have hmt := HMl.out
                      have SM := HSim.out.commit (root := 0) (l := mt) (by omega) (.inl rfl) (by omega) DV.zero
                      have eR : D.root (x.p.sec + 8 * ((x.p.num + 1) % 2)) (encoded 0 (x.p.num + 1) 2 (rootBody 0 mt x.p.nu)) = (cutD D sA E ct).crash aa.ch := by
                        rw [← eE, hpn, ← eS, hyes.1]
                        refine (cut_root D sA E aa.ch ?_ hyes.2).symm
                        rw [eE]
                        exact enc_half _ _ _ _ HBl.out
                      rw [eR] at SM
                      have O := SM.opens
                      have e1 : ((x.p.com ⟨0, x.p.num + 1, mt, x.p.nu⟩).on DV.zero).sec = 1 := hps
                      have e2 : (S.commit 0 mt).n = q := hDq
                      refine ⟨⟨(S.commit 0 mt).root, (S.commit 0 mt).num, (S.commit 0 mt).mt, ((x.p.com ⟨0, x.p.num + 1, mt, x.p.nu⟩).on DV.zero).cu⟩, k + 1 + 1, ?_, fun dc => ?_⟩
                      · rw [e1, e2] at O
                        exact O
                      · have A := SM.again dc
                        rw [e1, e2] at A
                        exact A
                  rw [hDT] at kd
                  have hcn := cutD_n D sA E ct
                  have hcW := cutD_W D sA E ct (by omega)
                  rw [hDT] at hcn hcW
                  obtain ⟨ST, KK, hST, hSim⟩ := HFin
                  have HSim2 := hid hSim
                  have HSf := hid hSf
                  have HHL := hid hhl
                  clear hSim hSf hhl eE eS hDT hps hpn
                  have hac := HAo.out.c
                  have HCr := hid (fun w' (hb : Below wr.heap.size wr w') => crash_any d DT aa.ch w' (kd.d.keep hb) (by omega) hac)
                  have HOp : Hid (∀ w' (dc : DV), Below w.heap.size w w' → DkV w' dc (DT.crash aa.ch) → Calls Tryd.prog 13 #[dc.v, .int .i64 1, .int .i64 q] w' fun e w'' => e = .returned (.tuple #[(Pgr.at_ dc 1 q ST).v, .int .i64 0]) ∧ Below w'.heap.size w' w'') := hid fun w' dc hb hdc => by
                    have R := open_good dc (DT.crash aa.ch) 1 q w' hdc (HTb.out.keep hb) (by omega) (by omega) (by show 1 + 8 * (q + 2) ≤ DT.n; omega)
                    rw [hST] at R
                    exact R.mono fun e w'' h => ⟨h.1.2, h.2⟩
                  have HYN := hid (fun w' (hb : Below wr.heap.size wr w') => (show w'.cell? ⟨G, 266, none⟩ = some (.int .i64 q) by
                    have h := StV.cellN hp (kx.keep hb)
                    rw [show x.v.n = q by rw [HV.out.n, hDq]] at h
                    exact h))
                  have HPok : Hid (∀ dc : DV, (Pgr.at_ dc 1 q ST).ok) := hid fun dc => (HSim2.out dc).pok
                  have lx := kx.lt
                  have lb := kb.lt
                  have hsr := hbel.size
                  go_wp2_with fail
                  refine wp_region_headF 188 12 [147, 148, 149, 150, 151, 152, 153, 154, 146, 155, 156, 22] [10] ((fun kq => ([fun u w' => u = d.v, fun u w' => u = .pointer (some ⟨gb, 4, none⟩), fun u w' => u = .int .u64 aa.ch, fun u w' => ∃ (dc : DV), u = dc.v ∧ DkV w' dc (DT.crash aa.ch), fun u w' => u = .pointer (some ⟨G, 266, none⟩), fun u w' => u = .pointer (some ⟨G, 266, none⟩), fun u w' => u = .int .i64 (q : Int), fun u w' => ∃ (dc : DV), u = .tuple #[(Pgr.at_ dc 1 q ST).v, .int .i64 0] ∧ DkV w' dc (DT.crash aa.ch), fun u w' => ∃ (dc : DV), u = .tuple #[(Pgr.at_ dc 1 q ST).v, .int .i64 0] ∧ DkV w' dc (DT.crash aa.ch), fun u w' => ∃ (dc : DV), u = (Pgr.at_ dc 1 q ST).v ∧ DkV w' dc (DT.crash aa.ch), fun u w' => u = .int .i64 0, fun u w' => ∃ (b22 : Nat), u = .pointer (some ⟨b22, 0, none⟩) ∧ wr.heap.size ≤ b22 ∧ Blk w' b22 37 Pgr.zero.cs] : List (Value → World → Prop)).getD kq (fun _ _ => True))) (by kernel_rfl) rfl (by kernel_rfl) ?grow ?step ?tail
                  case step =>
                    simp only [List.take_succ_cons, List.take_zero]
                    refine HSteps.cons ?_ ?_
                    · intro f w' hb hU
                      obtain ⟨x0', x1', x2', x3', x4'⟩ := (kd.k.keep hb).c5
                      simp only [putAll, List.foldl_cons, List.foldl_nil]
                      go_frame
                      go_wp2_with fail
                      exact ⟨rfl, _, rfl, Below.refl _ _, rfl⟩
                    refine HSteps.cons ?_ ?_
                    · intro f w' hb hU
                      simp only [putAll, List.foldl_cons, List.foldl_nil]
                      go_frame
                      go_wp2_with fail
                      exact ⟨rfl, _, rfl, Below.refl _ _, rfl⟩
                    refine HSteps.cons ?_ ?_
                    · intro f w' hb hU
                      obtain u1 : f 148 = .pointer (some ⟨gb, 4, none⟩) := hU.get ⟨1, .data⟩ (by simp) rfl
                      obtain ⟨p0, p1, p2, p3, p4⟩ := (kb.keep hb).c5
                      simp only [putAll, List.foldl_cons, List.foldl_nil]
                      go_frame
                      try simp only [u1]
                      go_wp2_with fail
                      exact ⟨rfl, _, rfl, Below.refl _ _, rfl⟩
                    refine HSteps.cons ?_ ?_
                    · intro f w' hb hU
                      obtain u0 : f 147 = d.v := hU.get ⟨0, .data⟩ (by simp) rfl
                      obtain u2 : f 149 = .int .u64 aa.ch := hU.get ⟨2, .data⟩ (by simp) rfl
                      simp only [putAll, List.foldl_cons, List.foldl_nil]
                      go_frame
                      try simp only [u0, u2]
                      go_wp2_with fail
                      refine (HCr.out w' hb).mono ?_
                      rintro e w3 ⟨dc, rfl, hdc, b3⟩
                      go_wp2_with fail
                      exact ⟨rfl, _, rfl, b3, dc, rfl, hdc⟩
                    refine HSteps.cons ?_ ?_
                    · intro f w' hb hU
                      simp only [putAll, List.foldl_cons, List.foldl_nil]
                      go_frame
                      go_wp2_with fail
                      exact ⟨rfl, _, rfl, Below.refl _ _, rfl⟩
                    refine HSteps.cons ?_ ?_
                    · intro f w' hb hU
                      obtain u4 : f 151 = .pointer (some ⟨G, 266, none⟩) := hU.get ⟨4, .data⟩ (by simp) rfl
                      simp only [putAll, List.foldl_cons, List.foldl_nil]
                      go_frame
                      try simp only [u4]
                      go_wp2_with fail
                      exact ⟨rfl, _, rfl, Below.refl _ _, rfl⟩
                    refine HSteps.cons ?_ ?_
                    · intro f w' hb hU
                      obtain u5 : f 152 = .pointer (some ⟨G, 266, none⟩) := hU.get ⟨5, .data⟩ (by simp) rfl
                      have yN := HYN.out w' hb
                      simp only [putAll, List.foldl_cons, List.foldl_nil]
                      go_frame
                      try simp only [u5]
                      go_wp2_with fail
                      exact ⟨rfl, _, rfl, Below.refl _ _, rfl⟩
                    refine HSteps.cons ?_ ?_
                    · intro f w' hb hU
                      obtain ⟨dc, u3, v3_0⟩ : ∃ (dc : DV), f 150 = dc.v ∧ DkV w' dc (DT.crash aa.ch) := hU.get ⟨3, .data⟩ (by simp) rfl
                      obtain u6 : f 153 = .int .i64 (q : Int) := hU.get ⟨6, .data⟩ (by simp) rfl
                      simp only [putAll, List.foldl_cons, List.foldl_nil]
                      go_frame
                      try simp only [u3, u6]
                      go_wp2_with fail
                      refine (HOp.out w' dc (hbel.trans (hb.mono hsr)) v3_0).mono ?_
                      rintro e w3 ⟨rfl, b3⟩
                      go_wp2_with fail
                      exact ⟨rfl, _, rfl, b3, dc, rfl, v3_0.keep b3⟩
                    refine HSteps.cons ?_ ?_
                    · intro f w' hb hU
                      obtain ⟨dc, u7, v7_0⟩ : ∃ (dc : DV), f 154 = .tuple #[(Pgr.at_ dc 1 q ST).v, .int .i64 0] ∧ DkV w' dc (DT.crash aa.ch) := hU.get ⟨7, .data⟩ (by simp) rfl
                      simp only [putAll, List.foldl_cons, List.foldl_nil]
                      go_frame
                      try simp only [u7]
                      go_wp2_with fail
                      exact ⟨rfl, _, rfl, Below.refl _ _, dc, rfl, v7_0⟩
                    refine HSteps.cons ?_ ?_
                    · intro f w' hb hU
                      obtain ⟨dc, u8, v8_0⟩ : ∃ (dc : DV), f 146 = .tuple #[(Pgr.at_ dc 1 q ST).v, .int .i64 0] ∧ DkV w' dc (DT.crash aa.ch) := hU.get ⟨8, .data⟩ (by simp) rfl
                      simp only [putAll, List.foldl_cons, List.foldl_nil]
                      go_frame
                      try simp only [u8]
                      go_wp2_with fail
                      exact ⟨rfl, _, rfl, Below.refl _ _, dc, rfl, v8_0⟩
                    refine HSteps.cons ?_ ?_
                    · intro f w' hb hU
                      obtain ⟨dc, u8, v8_0⟩ : ∃ (dc : DV), f 146 = .tuple #[(Pgr.at_ dc 1 q ST).v, .int .i64 0] ∧ DkV w' dc (DT.crash aa.ch) := hU.get ⟨8, .data⟩ (by simp) rfl
                      simp only [putAll, List.foldl_cons, List.foldl_nil]
                      go_frame
                      try simp only [u8]
                      go_wp2_with fail
                      exact ⟨rfl, _, rfl, Below.refl _ _, rfl⟩
                    refine HSteps.cons ?_ ?_
                    · intro f w' hb hU
                      have hP : Blk _ w'.heap.size 37 Pgr.zero.cs := Blk.new w' _ _
                      have hb3 : Below w'.heap.size w' _ := (Below.refl _ _).alloc (Nat.le_refl _) (.cells (Pgr.zero.cs).toArray 37)
                      simp only [putAll, List.foldl_cons, List.foldl_nil]
                      go_frame
                      go_wp2_with fail
                      exact ⟨rfl, _, rfl, hb3, _, rfl, hb.size, hP⟩
                    exact HSteps.nil
                  case grow =>
                    intro kq u wa wb hb hu
                    rcases kq with _ | _ | _ | _ | _ | _ | _ | _ | _ | _ | _ | _ | kq
                    · exact hu
                    · exact hu
                    · exact hu
                    · obtain ⟨dc, ue, uf0⟩ := hu
                      exact ⟨dc, ue, uf0.keep hb⟩
                    · exact hu
                    · exact hu
                    · exact hu
                    · obtain ⟨dc, ue, uf0⟩ := hu
                      exact ⟨dc, ue, uf0.keep hb⟩
                    · obtain ⟨dc, ue, uf0⟩ := hu
                      exact ⟨dc, ue, uf0.keep hb⟩
                    · obtain ⟨dc, ue, uf0⟩ := hu
                      exact ⟨dc, ue, uf0.keep hb⟩
                    · exact hu
                    · obtain ⟨b22, ue, uf0, uf1⟩ := hu
                      exact ⟨b22, ue, uf0, uf1.keep hb⟩
                    · trivial
                  case tail =>
                    intro f w7 hb7 hU
                    obtain ⟨dc, u9, v9_0⟩ : ∃ (dc : DV), f 155 = (Pgr.at_ dc 1 q ST).v ∧ DkV w7 dc (DT.crash aa.ch) := hU.get 9 (by decide)
                    obtain u10 : f 156 = .int .i64 0 := hU.get 10 (by decide)
                    obtain ⟨b22, u11, v11_0, v11_1⟩ : ∃ (b22 : Nat), f 22 = .pointer (some ⟨b22, 0, none⟩) ∧ wr.heap.size ≤ b22 ∧ Blk w7 b22 37 Pgr.zero.cs := hU.get 11 (by decide)
                    simp only [List.drop_succ_cons, List.drop_zero, putAll, List.foldl_cons, List.foldl_nil]
                    go_frame
                    simp only [u9, u10, u11]
                    clear u9 u10 u11
                    clear hU
                    have kx7 := kx.keep hb7
                    have kb7 := kb.keep hb7
                    have HV7 := hid (HV.out.lt.keep hb7)
                    have B7 := hbel.trans (hb7.mono hbel.size)
                    clear kx kb HV hbel hb7 HCr HYN kd hrE
                    have hgP : w.heap.size ≤ b22 := by omega
                    go_wp2_with ((with_reducible refine is_store 37 ?_); refine wp_storeP b22 _ (Pgr.at_ dc 1 q ST) (HPok.out dc) v11_1 (by rw [Pgr.cs_len Pgr.zero_ok]) rfl rfl ?_; intro w8 k8 r8; go_frame)
                    refine noPanic_ok ?_
                    have kx8 := kx7.grown r8 (by simp; omega)
                    have kb8 := kb7.grown r8 (by simp; omega)
                    have HV8 := hid ((HV7.out.grown r8 (fun g hg h => by cases hg; have := h.2; omega)).mono (N' := fun b => b ≠ G) (fun b hb => hb.1.1))
                    have hdc8 := v9_0.kept (Kept.grown r8 v11_1 notPgr)
                    have B8 := B7.grown r8 B7.size (fun z hz => by cases hz; exact hgP)
                    have gPG : ¬ b22 = G ∧ ¬ G = b22 ∧ ¬ b22 = gb ∧ ¬ gb = b22 := by omega
                    clear kx7 kb7 HV7 B7 r8 v11_0 v11_1 v9_0
                    obtain ⟨m3, hm3⟩ : ∃ z, aa.ch % 3 = z := ⟨_, rfl⟩
                    have q31 : (aa.ch : Int).tmod 3 = (m3 : Int) := by rw [Int.tmod_eq_emod_of_nonneg (by omega)]; omega
                    have HM3 := hid hm3
                    clear hm3
                    have HC3 : Hid (hl = decide (ct = 8 ∧ m3 ≠ 0)) := hid (by rw [← HM3.out]; exact HHL.out.symm)
                    go_upto_region 27 with fail
                    go_cut [166] (fun a wx => a = .bool hl ∧ w8 = wx)
                    case first =>
                      have hcc := HC3.out
                      clear HC3 HHL
                      obtain ⟨y0, y1, y2, y3, y4⟩ := kb8.c5
                      have ly := kb8.lt
                      by_cases c8 : ct = 8
                      · have t8 : ((ct : Int) == 8) = true := by rw [beq_iff_eq]; omega
                        by_cases c3 : m3 = 0
                        · have t3 : ((m3 : Int) != 0) = false := by rw [bne_eq_false_iff_eq]; omega
                          obtain rfl : hl = false := by rw [hcc]; simp [c3]
                          clear hcc c3 c8
                          go_wp2_with fail
                          go_meet
                          case rel => exact ⟨rfl, rfl⟩
                        · have t3 : ((m3 : Int) != 0) = true := by rw [bne_iff_ne]; omega
                          obtain rfl : hl = true := by rw [hcc]; simp [c3, c8]
                          clear hcc c3 c8
                          go_wp2_with fail
                          go_meet
                          case rel => exact ⟨rfl, rfl⟩
                      · have t8 : ((ct : Int) == 8) = false := by rw [beq_eq_false_iff_ne]; omega
                        obtain rfl : hl = false := by rw [hcc]; simp [c8]
                        clear hcc c8
                        go_wp2_with fail
                        go_meet
                        case rel => exact ⟨rfl, rfl⟩
                    case rest =>
                      obtain ⟨rfl, rfl⟩ := hcut
                      clear HC3 HHL
                      cases hl with
                      | false =>
                        have hSf : Sf = S := HSf.out.symm
                        subst hSf
                        clear HSf
                        go_wp2_with fail
                        have HAW := hid (fun (wx : World) (hb : Below w8.heap.size w8 wx) => awake_any wx (HTb.out.keep (B8.trans (hb.mono B8.size))))
                        have HRe := hid (fun wx (hb : Below w8.heap.size w8 wx) => reopen_any x.v Sf wx (HV8.out.keep hb))
                        have HIs := hid (fun wx v3 (hb : Below w8.heap.size w8 wx) (hv : RVr (fun b => b ≠ G) wx v3 Sf.reopen) => is_any (Pgr.at_ dc 1 q ST) v3 (DT.crash aa.ch) Sf.reopen wx (HTb.out.keep (B8.trans (hb.mono B8.size))) (HSim2.out dc) (hdc8.keep hb) hv)
                        refine wp_region_head 188 9 [180, 181, 182, 183, 184, 185, 186, 187, 6] [] ((fun kq => ([fun u w' => u = .bool true, fun u w' => u = .bool true, fun u w' => u = (Pgr.at_ dc 1 q ST).v, fun u w' => u = .pointer (some ⟨G, 266, none⟩), fun u w' => u = x.v.v, fun u w' => ∃ (v3 : RV), u = v3.v ∧ RVr (fun b => b ≠ G) w' v3 Sf.reopen, fun u w' => u = .bool true, fun u w' => u = .bool true, fun u w' => u = .bool true] : List (Value → World → Prop)).getD kq (fun _ _ => True))) (by kernel_rfl) rfl (by kernel_rfl) (.inl rfl) ?grow ?step ?tail
                        case step =>
                          simp only [List.take_succ_cons, List.take_zero]
                          refine HSteps.cons ?_ ?_
                          · intro f w' hb hU
                            simp only [putAll, List.foldl_cons, List.foldl_nil]
                            go_frame
                            go_wp2_with fail
                            refine (HAW.out w' hb).mono ?_
                            rintro e w3 ⟨rfl, b3⟩
                            go_wp2_with fail
                            exact ⟨rfl, _, rfl, b3, rfl⟩
                          refine HSteps.cons ?_ ?_
                          · intro f w' hb hU
                            obtain u0 : f 180 = .bool true := hU.get ⟨0, .data⟩ (by simp) rfl
                            simp only [putAll, List.foldl_cons, List.foldl_nil]
                            go_frame
                            try simp only [u0]
                            go_wp2_with fail
                            exact ⟨rfl, _, rfl, Below.refl _ _, rfl⟩
                          refine HSteps.cons ?_ ?_
                          · intro f w' hb hU
                            simp only [putAll, List.foldl_cons, List.foldl_nil]
                            go_frame
                            obtain u1 : f 181 = .bool true := hU.get ⟨1, .guard⟩ (by simp) rfl
                            try simp only [u1]
                            go_wp2_with ((with_reducible refine is_load 37 ?_); refine wp_loadPg b22 (Pgr.at_ dc 1 q ST) (HPok.out dc) (k8.keep hb) rfl rfl ?_; go_frame)
                            exact ⟨rfl, _, rfl, Below.refl _ _, rfl⟩
                          refine HSteps.cons ?_ ?_
                          · intro f w' hb hU
                            simp only [putAll, List.foldl_cons, List.foldl_nil]
                            go_frame
                            obtain u1 : f 181 = .bool true := hU.get ⟨1, .guard⟩ (by simp) rfl
                            try simp only [u1]
                            go_wp2_with fail
                            exact ⟨rfl, _, rfl, Below.refl _ _, rfl⟩
                          refine HSteps.cons ?_ ?_
                          · intro f w' hb hU
                            simp only [putAll, List.foldl_cons, List.foldl_nil]
                            go_frame
                            obtain u3 : f 183 = .pointer (some ⟨G, 266, none⟩) := hU.get ⟨3, .data⟩ (by simp) rfl
                            obtain u1 : f 181 = .bool true := hU.get ⟨1, .guard⟩ (by simp) rfl
                            try simp only [u3, u1]
                            go_wp2_with ((with_reducible refine is_load 60 ?_); refine wp_loadTVg G x hp (kx8.keep hb) rfl rfl ?_; go_frame)
                            exact ⟨rfl, _, rfl, Below.refl _ _, rfl⟩
                          refine HSteps.cons ?_ ?_
                          · intro f w' hb hU
                            simp only [putAll, List.foldl_cons, List.foldl_nil]
                            go_frame
                            obtain u4 : f 184 = x.v.v := hU.get ⟨4, .data⟩ (by simp) rfl
                            obtain u1 : f 181 = .bool true := hU.get ⟨1, .chain⟩ (by simp) rfl
                            try simp only [u4, u1]
                            go_wp2_with fail
                            refine (HRe.out w' hb).mono ?_
                            rintro e w3 ⟨v3, rfl, hv3, b3⟩
                            go_wp2_with fail
                            exact ⟨rfl, _, rfl, b3, v3, rfl, hv3⟩
                          refine HSteps.cons ?_ ?_
                          · intro f w' hb hU
                            simp only [putAll, List.foldl_cons, List.foldl_nil]
                            go_frame
                            obtain u2 : f 182 = (Pgr.at_ dc 1 q ST).v := hU.get ⟨2, .data⟩ (by simp) rfl
                            obtain ⟨v3, u5, v5_0⟩ : ∃ (v3 : RV), f 185 = v3.v ∧ RVr (fun b => b ≠ G) w' v3 Sf.reopen := hU.get ⟨5, .data⟩ (by simp) rfl
                            obtain u1 : f 181 = .bool true := hU.get ⟨1, .guard⟩ (by simp) rfl
                            try simp only [u2, u5, u1]
                            go_wp2_with fail
                            refine (HIs.out w' v3 hb v5_0).mono ?_
                            rintro e w3 ⟨rfl, b3⟩
                            go_wp2_with fail
                            exact ⟨rfl, _, rfl, b3, rfl⟩
                          refine HSteps.cons ?_ ?_
                          · intro f w' hb hU
                            obtain u1 : f 181 = .bool true := hU.get ⟨1, .data⟩ (by simp) rfl
                            obtain u6 : f 186 = .bool true := hU.get ⟨6, .data⟩ (by simp) rfl
                            simp only [putAll, List.foldl_cons, List.foldl_nil]
                            go_frame
                            try simp only [u1, u6]
                            go_wp2_with fail
                            exact ⟨rfl, _, rfl, Below.refl _ _, rfl⟩
                          refine HSteps.cons ?_ ?_
                          · intro f w' hb hU
                            obtain u7 : f 187 = .bool true := hU.get ⟨7, .data⟩ (by simp) rfl
                            obtain u6 : f 186 = .bool true := hU.get ⟨6, .chain⟩ (by simp) rfl
                            obtain u0 : f 180 = .bool true := hU.get ⟨0, .phase⟩ (by simp) rfl
                            obtain u1 : f 181 = .bool true := hU.get ⟨1, .phase⟩ (by simp) rfl
                            obtain u2 : f 182 = (Pgr.at_ dc 1 q ST).v := hU.get ⟨2, .phase⟩ (by simp) rfl
                            obtain u3 : f 183 = .pointer (some ⟨G, 266, none⟩) := hU.get ⟨3, .phase⟩ (by simp) rfl
                            obtain u4 : f 184 = x.v.v := hU.get ⟨4, .phase⟩ (by simp) rfl
                            obtain ⟨v3, u5, v5_0⟩ : ∃ (v3 : RV), f 185 = v3.v ∧ RVr (fun b => b ≠ G) w' v3 Sf.reopen := hU.get ⟨5, .phase⟩ (by simp) rfl
                            simp only [putAll, List.foldl_cons, List.foldl_nil]
                            go_frame
                            try simp only [u7, u6, u0, u1, u2, u3, u4, u5]
                            go_wp2_with fail
                            exact ⟨rfl, _, rfl, Below.refl _ _, rfl⟩
                          exact HSteps.nil
                        case grow =>
                          intro kq u wa wb hb hu
                          rcases kq with _ | _ | _ | _ | _ | _ | _ | _ | _ | kq
                          · exact hu
                          · exact hu
                          · exact hu
                          · exact hu
                          · exact hu
                          · obtain ⟨v3, ue, uf0⟩ := hu
                            exact ⟨v3, ue, uf0.keep hb⟩
                          · exact hu
                          · exact hu
                          · exact hu
                          · trivial
                        case tail =>
                          intro f w7 hb7 hU
                          obtain u8 : f 6 = .bool true := hU.get 8 (by decide)
                          simp only [List.drop_succ_cons, List.drop_zero, putAll, List.foldl_cons, List.foldl_nil]
                          go_frame
                          simp only [u8]
                          clear u8
                          clear hU
                          have C := B8.trans (hb7.mono B8.size)
                          go_wp2_with fail
                          go_ret
                          exact ⟨rfl, C⟩
                      | true =>
                        have hSf : Sf = S.commit 0 mt := HSf.out.symm
                        subst hSf
                        clear HSf
                        have hlx := kx8.lt
                        have hlb := kb8.lt
                        have HCm := hid (fun wx gm (hb : Below w8.heap.size w8 wx) (hm : RN (fun b => b ≠ G) wx 1 (some ⟨gm, 0, none⟩) L (mt.map byV)) => (show Calls Tryd.prog 38 #[x.v.v, .int .i64 0, .slice (some ⟨gm, 0, none⟩) L L] wx fun e w' => ∃ v' : RV, e = .returned (.tuple #[v'.v, .int .i64 0]) ∧ RVr (fun b => b ≠ G) w' v' (S.commit 0 mt) ∧ Below wx.heap.size wx w' by
                          have R := rcommit_any x.v S 0 (some ⟨gm, 0, none⟩) L L mt wx (HV8.out.keep hb) (.inl rfl) ⟨hm, Nat.le_refl _, by show L ≤ _; omega⟩ (by omega)
                          rw [show ((0 : Nat) : Int) = 0 from rfl] at R
                          refine R.mono fun e w' h => ?_
                          obtain ⟨h1, h3⟩ := h
                          rw [if_neg (by omega)] at h1
                          obtain ⟨v', h1, h2⟩ := h1
                          exact ⟨v', h1, h2, h3⟩))
                        go_wp2_with fail
                        refine wp_region_headF 188 13 [168, 169, 170, 171, 172, 173, 174, 175, 176, 167, 177, 178, 179] [11] ((fun kq => ([fun u w' => u = .pointer (some ⟨G, 266, none⟩), fun u w' => u = x.v.v, fun u w' => u = .pointer (some ⟨gb, 3, none⟩), fun u w' => u = .int .u16 L, fun u w' => u = .int .i64 L, fun u w' => u = .pointer (some ⟨gb, 2, none⟩), fun u w' => u = .int .u8 aa.f, fun u w' => ∃ (gm : Nat), u = .slice (some ⟨gm, 0, none⟩) L L ∧ RN (fun b => b ≠ G) w' 1 (some ⟨gm, 0, none⟩) L (mt.map byV), fun u w' => ∃ (v2 : RV), u = .tuple #[v2.v, .int .i64 0] ∧ RVr (fun b => b ≠ G) w' v2 (S.commit 0 mt), fun u w' => ∃ (v2 : RV), u = .tuple #[v2.v, .int .i64 0] ∧ RVr (fun b => b ≠ G) w' v2 (S.commit 0 mt), fun u w' => ∃ (v2 : RV), u = v2.v ∧ RVr (fun b => b ≠ G) w' v2 (S.commit 0 mt), fun u w' => u = .int .i64 0, fun u w' => u = .pointer (some ⟨G, 266, none⟩)] : List (Value → World → Prop)).getD kq (fun _ _ => True))) (by kernel_rfl) rfl (by kernel_rfl) ?grow ?step ?tail
                        case step =>
                          simp only [List.take_succ_cons, List.take_zero]
                          refine HSteps.cons ?_ ?_
                          · intro f w' hb hU
                            simp only [putAll, List.foldl_cons, List.foldl_nil]
                            go_frame
                            go_wp2_with fail
                            exact ⟨rfl, _, rfl, Below.refl _ _, rfl⟩
                          refine HSteps.cons ?_ ?_
                          · intro f w' hb hU
                            obtain u0 : f 168 = .pointer (some ⟨G, 266, none⟩) := hU.get ⟨0, .data⟩ (by simp) rfl
                            simp only [putAll, List.foldl_cons, List.foldl_nil]
                            go_frame
                            try simp only [u0]
                            go_wp2_with ((with_reducible refine is_load 60 ?_); refine wp_loadTV G x hp (kx8.keep hb) rfl ?_; go_frame)
                            exact ⟨rfl, _, rfl, Below.refl _ _, rfl⟩
                          refine HSteps.cons ?_ ?_
                          · intro f w' hb hU
                            simp only [putAll, List.foldl_cons, List.foldl_nil]
                            go_frame
                            go_wp2_with fail
                            exact ⟨rfl, _, rfl, Below.refl _ _, rfl⟩
                          refine HSteps.cons ?_ ?_
                          · intro f w' hb hU
                            obtain u2 : f 170 = .pointer (some ⟨gb, 3, none⟩) := hU.get ⟨2, .data⟩ (by simp) rfl
                            obtain ⟨p0, p1, p2, p3, p4⟩ := (kb8.keep hb).c5
                            rw [HMT.out.2] at p3
                            simp only [putAll, List.foldl_cons, List.foldl_nil]
                            go_frame
                            try simp only [u2]
                            go_wp2_with fail
                            exact ⟨rfl, _, rfl, Below.refl _ _, rfl⟩
                          refine HSteps.cons ?_ ?_
                          · intro f w' hb hU
                            obtain u3 : f 171 = .int .u16 L := hU.get ⟨3, .data⟩ (by simp) rfl
                            have qL := IntWalk.i64_in (L : Int) (by omega)
                            simp only [putAll, List.foldl_cons, List.foldl_nil]
                            go_frame
                            try simp only [u3]
                            go_wp2_with fail
                            exact ⟨rfl, _, rfl, Below.refl _ _, rfl⟩
                          refine HSteps.cons ?_ ?_
                          · intro f w' hb hU
                            simp only [putAll, List.foldl_cons, List.foldl_nil]
                            go_frame
                            go_wp2_with fail
                            exact ⟨rfl, _, rfl, Below.refl _ _, rfl⟩
                          refine HSteps.cons ?_ ?_
                          · intro f w' hb hU
                            obtain u5 : f 173 = .pointer (some ⟨gb, 2, none⟩) := hU.get ⟨5, .data⟩ (by simp) rfl
                            obtain ⟨p0, p1, p2, p3, p4⟩ := (kb8.keep hb).c5
                            simp only [putAll, List.foldl_cons, List.foldl_nil]
                            go_frame
                            try simp only [u5]
                            go_wp2_with fail
                            exact ⟨rfl, _, rfl, Below.refl _ _, rfl⟩
                          refine HSteps.cons ?_ ?_
                          · intro f w' hb hU
                            obtain u4 : f 172 = .int .i64 L := hU.get ⟨4, .data⟩ (by simp) rfl
                            obtain u6 : f 174 = .int .u8 aa.f := hU.get ⟨6, .data⟩ (by simp) rfl
                            simp only [putAll, List.foldl_cons, List.foldl_nil]
                            go_frame
                            try simp only [u4, u6]
                            go_wp2_with fail
                            refine (HBO.out w').mono ?_
                            rintro e w3 ⟨gm, rfl, hgm1, _, hgm, b3⟩
                            go_wp2_with fail
                            exact ⟨rfl, _, rfl, b3, gm, rfl, ⟨hgm, fun b o hA _ => by cases hA; have := hb.size; omega⟩⟩
                          refine HSteps.cons ?_ ?_
                          · intro f w' hb hU
                            obtain u1 : f 169 = x.v.v := hU.get ⟨1, .data⟩ (by simp) rfl
                            obtain ⟨gm, u7, v7_0⟩ : ∃ (gm : Nat), f 175 = .slice (some ⟨gm, 0, none⟩) L L ∧ RN (fun b => b ≠ G) w' 1 (some ⟨gm, 0, none⟩) L (mt.map byV) := hU.get ⟨7, .data⟩ (by simp) rfl
                            simp only [putAll, List.foldl_cons, List.foldl_nil]
                            go_frame
                            try simp only [u1, u7]
                            go_wp2_with fail
                            refine (HCm.out w' gm hb v7_0).mono ?_
                            rintro e w3 ⟨v2, rfl, hv2, b3⟩
                            go_wp2_with fail
                            exact ⟨rfl, _, rfl, b3, v2, rfl, hv2⟩
                          refine HSteps.cons ?_ ?_
                          · intro f w' hb hU
                            obtain ⟨v2, u8, v8_0⟩ : ∃ (v2 : RV), f 176 = .tuple #[v2.v, .int .i64 0] ∧ RVr (fun b => b ≠ G) w' v2 (S.commit 0 mt) := hU.get ⟨8, .data⟩ (by simp) rfl
                            simp only [putAll, List.foldl_cons, List.foldl_nil]
                            go_frame
                            try simp only [u8]
                            go_wp2_with fail
                            exact ⟨rfl, _, rfl, Below.refl _ _, v2, rfl, v8_0⟩
                          refine HSteps.cons ?_ ?_
                          · intro f w' hb hU
                            obtain ⟨v2, u9, v9_0⟩ : ∃ (v2 : RV), f 167 = .tuple #[v2.v, .int .i64 0] ∧ RVr (fun b => b ≠ G) w' v2 (S.commit 0 mt) := hU.get ⟨9, .data⟩ (by simp) rfl
                            simp only [putAll, List.foldl_cons, List.foldl_nil]
                            go_frame
                            try simp only [u9]
                            go_wp2_with fail
                            exact ⟨rfl, _, rfl, Below.refl _ _, v2, rfl, v9_0⟩
                          refine HSteps.cons ?_ ?_
                          · intro f w' hb hU
                            obtain ⟨v2, u9, v9_0⟩ : ∃ (v2 : RV), f 167 = .tuple #[v2.v, .int .i64 0] ∧ RVr (fun b => b ≠ G) w' v2 (S.commit 0 mt) := hU.get ⟨9, .data⟩ (by simp) rfl
                            simp only [putAll, List.foldl_cons, List.foldl_nil]
                            go_frame
                            try simp only [u9]
                            go_wp2_with fail
                            exact ⟨rfl, _, rfl, Below.refl _ _, rfl⟩
                          refine HSteps.cons ?_ ?_
                          · intro f w' hb hU
                            obtain u0 : f 168 = .pointer (some ⟨G, 266, none⟩) := hU.get ⟨0, .phase⟩ (by simp) rfl
                            obtain u1 : f 169 = x.v.v := hU.get ⟨1, .phase⟩ (by simp) rfl
                            obtain u2 : f 170 = .pointer (some ⟨gb, 3, none⟩) := hU.get ⟨2, .phase⟩ (by simp) rfl
                            obtain u3 : f 171 = .int .u16 L := hU.get ⟨3, .phase⟩ (by simp) rfl
                            obtain u4 : f 172 = .int .i64 L := hU.get ⟨4, .phase⟩ (by simp) rfl
                            obtain u5 : f 173 = .pointer (some ⟨gb, 2, none⟩) := hU.get ⟨5, .phase⟩ (by simp) rfl
                            obtain u6 : f 174 = .int .u8 aa.f := hU.get ⟨6, .phase⟩ (by simp) rfl
                            obtain ⟨gm, u7, v7_0⟩ : ∃ (gm : Nat), f 175 = .slice (some ⟨gm, 0, none⟩) L L ∧ RN (fun b => b ≠ G) w' 1 (some ⟨gm, 0, none⟩) L (mt.map byV) := hU.get ⟨7, .phase⟩ (by simp) rfl
                            obtain ⟨v2, u8, v8_0⟩ : ∃ (v2 : RV), f 176 = .tuple #[v2.v, .int .i64 0] ∧ RVr (fun b => b ≠ G) w' v2 (S.commit 0 mt) := hU.get ⟨8, .phase⟩ (by simp) rfl
                            obtain ⟨v2, u9, v9_0⟩ : ∃ (v2 : RV), f 167 = .tuple #[v2.v, .int .i64 0] ∧ RVr (fun b => b ≠ G) w' v2 (S.commit 0 mt) := hU.get ⟨9, .phase⟩ (by simp) rfl
                            obtain ⟨v2, u10, v10_0⟩ : ∃ (v2 : RV), f 177 = v2.v ∧ RVr (fun b => b ≠ G) w' v2 (S.commit 0 mt) := hU.get ⟨10, .phase⟩ (by simp) rfl
                            simp only [putAll, List.foldl_cons, List.foldl_nil]
                            go_frame
                            try simp only [u0, u1, u2, u3, u4, u5, u6, u7, u8, u9, u10]
                            go_wp2_with fail
                            exact ⟨rfl, _, rfl, Below.refl _ _, rfl⟩
                          exact HSteps.nil
                        case grow =>
                          intro kq u wa wb hb hu
                          rcases kq with _ | _ | _ | _ | _ | _ | _ | _ | _ | _ | _ | _ | _ | kq
                          · exact hu
                          · exact hu
                          · exact hu
                          · exact hu
                          · exact hu
                          · exact hu
                          · exact hu
                          · obtain ⟨gm, ue, uf0⟩ := hu
                            exact ⟨gm, ue, uf0.keep hb⟩
                          · obtain ⟨v2, ue, uf0⟩ := hu
                            exact ⟨v2, ue, uf0.keep hb⟩
                          · obtain ⟨v2, ue, uf0⟩ := hu
                            exact ⟨v2, ue, uf0.keep hb⟩
                          · obtain ⟨v2, ue, uf0⟩ := hu
                            exact ⟨v2, ue, uf0.keep hb⟩
                          · exact hu
                          · exact hu
                          · trivial
                        case tail =>
                          intro f w7 hb7 hU
                          obtain ⟨v2, u10, v10_0⟩ : ∃ (v2 : RV), f 177 = v2.v ∧ RVr (fun b => b ≠ G) w7 v2 (S.commit 0 mt) := hU.get 10 (by decide)
                          obtain u12 : f 179 = .pointer (some ⟨G, 266, none⟩) := hU.get 12 (by decide)
                          simp only [List.drop_succ_cons, List.drop_zero, putAll, List.foldl_cons, List.foldl_nil]
                          go_frame
                          simp only [u10, u12]
                          clear u10 u12
                          clear hU
                          have kx9 := kx8.keep hb7
                          have k9 := k8.keep hb7
                          have hdc9 := hdc8.keep hb7
                          have HV9 := hid v10_0
                          have B9 := B8.trans (hb7.mono B8.size)
                          clear kx8 k8 hdc8 B8 HV8 HCm v10_0 hb7 kb8 hlx hlb
                          go_wp2_with ((with_reducible refine is_store 60 ?_); refine wp_storeTV G x v2 hp kx9 rfl rfl ?_; intro wA kA rA; go_frame)
                          refine noPanic_ok ?_
                          have kP := k9.grown rA (by simp; omega)
                          have hdcA := hdc9.kept (Kept.grown rA kx9 notSto)
                          have HVA := hid (HV9.out.grown rA (fun g hg h => by cases hg; exact h rfl))
                          have BA := B9.grown rA B9.size (fun z hz => by cases hz; exact hgz)
                          clear kx9 k9 hdc9 HV9 B9 rA
                          have hpA : (StV.mk x.p v2 x.sec).p.ok := hp
                          obtain ⟨xn, hxn⟩ : ∃ z : StV, StV.mk x.p v2 x.sec = z := ⟨_, rfl⟩
                          have hxv : xn.v = v2 := by rw [← hxn]
                          rw [hxn] at kA hpA
                          rw [← hxv] at HVA
                          clear hxn hxv
                          go_wp2_with fail
                          have HAW := hid (fun (wx : World) (hb : Below wA.heap.size wA wx) => awake_any wx (HTb.out.keep (BA.trans (hb.mono BA.size))))
                          have HRe := hid (fun wx (hb : Below wA.heap.size wA wx) => reopen_any xn.v (S.commit 0 mt) wx (HVA.out.keep hb))
                          have HIs := hid (fun wx v3 (hb : Below wA.heap.size wA wx) (hv : RVr (fun b => b ≠ G) wx v3 (S.commit 0 mt).reopen) => is_any (Pgr.at_ dc 1 q ST) v3 (DT.crash aa.ch) (S.commit 0 mt).reopen wx (HTb.out.keep (BA.trans (hb.mono BA.size))) (HSim2.out dc) (hdcA.keep hb) hv)
                          refine wp_region_head 188 9 [180, 181, 182, 183, 184, 185, 186, 187, 6] [] ((fun kq => ([fun u w' => u = .bool true, fun u w' => u = .bool true, fun u w' => u = (Pgr.at_ dc 1 q ST).v, fun u w' => u = .pointer (some ⟨G, 266, none⟩), fun u w' => u = xn.v.v, fun u w' => ∃ (v3 : RV), u = v3.v ∧ RVr (fun b => b ≠ G) w' v3 (S.commit 0 mt).reopen, fun u w' => u = .bool true, fun u w' => u = .bool true, fun u w' => u = .bool true] : List (Value → World → Prop)).getD kq (fun _ _ => True))) (by kernel_rfl) rfl (by kernel_rfl) (.inl rfl) ?grow ?step ?tail
                          case step =>
                            simp only [List.take_succ_cons, List.take_zero]
                            refine HSteps.cons ?_ ?_
                            · intro f w' hb hU
                              simp only [putAll, List.foldl_cons, List.foldl_nil]
                              go_frame
                              go_wp2_with fail
                              refine (HAW.out w' hb).mono ?_
                              rintro e w3 ⟨rfl, b3⟩
                              go_wp2_with fail
                              exact ⟨rfl, _, rfl, b3, rfl⟩
                            refine HSteps.cons ?_ ?_
                            · intro f w' hb hU
                              obtain u0 : f 180 = .bool true := hU.get ⟨0, .data⟩ (by simp) rfl
                              simp only [putAll, List.foldl_cons, List.foldl_nil]
                              go_frame
                              try simp only [u0]
                              go_wp2_with fail
                              exact ⟨rfl, _, rfl, Below.refl _ _, rfl⟩
                            refine HSteps.cons ?_ ?_
                            · intro f w' hb hU
                              simp only [putAll, List.foldl_cons, List.foldl_nil]
                              go_frame
                              obtain u1 : f 181 = .bool true := hU.get ⟨1, .guard⟩ (by simp) rfl
                              try simp only [u1]
                              go_wp2_with ((with_reducible refine is_load 37 ?_); refine wp_loadPg b22 (Pgr.at_ dc 1 q ST) (HPok.out dc) (kP.keep hb) rfl rfl ?_; go_frame)
                              exact ⟨rfl, _, rfl, Below.refl _ _, rfl⟩
                            refine HSteps.cons ?_ ?_
                            · intro f w' hb hU
                              simp only [putAll, List.foldl_cons, List.foldl_nil]
                              go_frame
                              obtain u1 : f 181 = .bool true := hU.get ⟨1, .guard⟩ (by simp) rfl
                              try simp only [u1]
                              go_wp2_with fail
                              exact ⟨rfl, _, rfl, Below.refl _ _, rfl⟩
                            refine HSteps.cons ?_ ?_
                            · intro f w' hb hU
                              simp only [putAll, List.foldl_cons, List.foldl_nil]
                              go_frame
                              obtain u3 : f 183 = .pointer (some ⟨G, 266, none⟩) := hU.get ⟨3, .data⟩ (by simp) rfl
                              obtain u1 : f 181 = .bool true := hU.get ⟨1, .guard⟩ (by simp) rfl
                              try simp only [u3, u1]
                              go_wp2_with ((with_reducible refine is_load 60 ?_); refine wp_loadTVg G xn hpA (kA.keep hb) rfl rfl ?_; go_frame)
                              exact ⟨rfl, _, rfl, Below.refl _ _, rfl⟩
                            refine HSteps.cons ?_ ?_
                            · intro f w' hb hU
                              simp only [putAll, List.foldl_cons, List.foldl_nil]
                              go_frame
                              obtain u4 : f 184 = xn.v.v := hU.get ⟨4, .data⟩ (by simp) rfl
                              obtain u1 : f 181 = .bool true := hU.get ⟨1, .chain⟩ (by simp) rfl
                              try simp only [u4, u1]
                              go_wp2_with fail
                              refine (HRe.out w' hb).mono ?_
                              rintro e w3 ⟨v3, rfl, hv3, b3⟩
                              go_wp2_with fail
                              exact ⟨rfl, _, rfl, b3, v3, rfl, hv3⟩
                            refine HSteps.cons ?_ ?_
                            · intro f w' hb hU
                              simp only [putAll, List.foldl_cons, List.foldl_nil]
                              go_frame
                              obtain u2 : f 182 = (Pgr.at_ dc 1 q ST).v := hU.get ⟨2, .data⟩ (by simp) rfl
                              obtain ⟨v3, u5, v5_0⟩ : ∃ (v3 : RV), f 185 = v3.v ∧ RVr (fun b => b ≠ G) w' v3 (S.commit 0 mt).reopen := hU.get ⟨5, .data⟩ (by simp) rfl
                              obtain u1 : f 181 = .bool true := hU.get ⟨1, .guard⟩ (by simp) rfl
                              try simp only [u2, u5, u1]
                              go_wp2_with fail
                              refine (HIs.out w' v3 hb v5_0).mono ?_
                              rintro e w3 ⟨rfl, b3⟩
                              go_wp2_with fail
                              exact ⟨rfl, _, rfl, b3, rfl⟩
                            refine HSteps.cons ?_ ?_
                            · intro f w' hb hU
                              obtain u1 : f 181 = .bool true := hU.get ⟨1, .data⟩ (by simp) rfl
                              obtain u6 : f 186 = .bool true := hU.get ⟨6, .data⟩ (by simp) rfl
                              simp only [putAll, List.foldl_cons, List.foldl_nil]
                              go_frame
                              try simp only [u1, u6]
                              go_wp2_with fail
                              exact ⟨rfl, _, rfl, Below.refl _ _, rfl⟩
                            refine HSteps.cons ?_ ?_
                            · intro f w' hb hU
                              obtain u7 : f 187 = .bool true := hU.get ⟨7, .data⟩ (by simp) rfl
                              obtain u6 : f 186 = .bool true := hU.get ⟨6, .chain⟩ (by simp) rfl
                              obtain u0 : f 180 = .bool true := hU.get ⟨0, .phase⟩ (by simp) rfl
                              obtain u1 : f 181 = .bool true := hU.get ⟨1, .phase⟩ (by simp) rfl
                              obtain u2 : f 182 = (Pgr.at_ dc 1 q ST).v := hU.get ⟨2, .phase⟩ (by simp) rfl
                              obtain u3 : f 183 = .pointer (some ⟨G, 266, none⟩) := hU.get ⟨3, .phase⟩ (by simp) rfl
                              obtain u4 : f 184 = xn.v.v := hU.get ⟨4, .phase⟩ (by simp) rfl
                              obtain ⟨v3, u5, v5_0⟩ : ∃ (v3 : RV), f 185 = v3.v ∧ RVr (fun b => b ≠ G) w' v3 (S.commit 0 mt).reopen := hU.get ⟨5, .phase⟩ (by simp) rfl
                              simp only [putAll, List.foldl_cons, List.foldl_nil]
                              go_frame
                              try simp only [u7, u6, u0, u1, u2, u3, u4, u5]
                              go_wp2_with fail
                              exact ⟨rfl, _, rfl, Below.refl _ _, rfl⟩
                            exact HSteps.nil
                          case grow =>
                            intro kq u wa wb hb hu
                            rcases kq with _ | _ | _ | _ | _ | _ | _ | _ | _ | kq
                            · exact hu
                            · exact hu
                            · exact hu
                            · exact hu
                            · exact hu
                            · obtain ⟨v3, ue, uf0⟩ := hu
                              exact ⟨v3, ue, uf0.keep hb⟩
                            · exact hu
                            · exact hu
                            · exact hu
                            · trivial
                          case tail =>
                            intro f w7 hb7 hU
                            obtain u8 : f 6 = .bool true := hU.get 8 (by decide)
                            simp only [List.drop_succ_cons, List.drop_zero, putAll, List.foldl_cons, List.foldl_nil]
                            go_frame
                            simp only [u8]
                            clear u8
                            clear hU
                            have C := BA.trans (hb7.mono BA.size)
                            go_wp2_with fail
                            go_ret
                            exact ⟨rfl, C⟩
end Go.Proofs.YtanglofabkbllaaDoor

