/- Open of package wal, walked. Conditions: the disk reads; the table of remainders is laid. -/
import Derived.Test.YtlokfndonjldpaaDoorIntactG
import Derived.Test.YtlokfndonjldpaaDoorRecR
import Derived.Deep.LoopGhost
import Derived.Deep.Cut
import Derived.Deep.CutBlock
import Derived.Deep.DeepCutAuto
set_option linter.unusedSimpArgs false
set_option linter.unusedVariables false
namespace Go.Proofs.YtlokfndonjldpaaDoor
open Go.RowKit

theorem two_boxes_r {w w3 : World} {T1 T2 : TypeId} {cs1 cs2 : List Value} (e : (w.alloc (.cells cs1.toArray T1)).alloc (.cells cs2.toArray T2) = w3) :
    Blk w3 w.heap.size T1 cs1 ∧ Blk w3 (w.heap.size + 1) T2 cs2 ∧ Below w.heap.size w w3 := by
  subst e
  exact two_boxes (Below.refl _ _)
set_option maxRecDepth 100000 in
theorem open_no (d : DV) (f n : Int) (w : World) (h : n < 2 ∨ f < 0 ∨ (d.n : Int) < f + n) (hn : d.n ≤ 16384) (h0 : -1000000 ≤ f) (hf : f ≤ 1000000) (h1 : -1000000 ≤ n) (hs : n ≤ 1000000) :
    Calls Tryd.prog 15 #[d.v, .int .i64 f, .int .i64 n] w fun e w' => e = .returned (.tuple #[Lg.zero.v, .slice none 0 0, .int .i64 3]) ∧ Below w.heap.size w w' := by
    have HI := hid (fun w' => inside_no d f n 2 w' h hn h0 hf h1 hs (Nat.le_refl _))
    unfold DV.v at HI ⊢
    clear h
    go_enter Tryd.func15, Tryd.ntmps15
    go_wp2_with fail
    generalize hw3 : World.alloc (World.alloc w _) _ = v3
    obtain ⟨kd, kl, B⟩ := two_boxes_r (cs1 := d.cs) (cs2 := Lg.zero.cs) hw3
    clear hw3
    refine (HI.out v3).mono ?_
    rintro e w2 ⟨rfl, b2⟩
    have kl2 := kl.keep b2
    have B2 := B.trans (b2.mono B.size)
    clear kd kl B b2
    go_wp2_with ((with_reducible refine is_store 44 ?_); refine wp_storeB (w.heap.size + 1) _ _ Lg.zero.cs kl2 logN rfl (lg_one _) rfl rfl ?_; intro w9 k9 r9; go_frame)
    obtain ⟨e0, e1, e2, e3, e4, e5⟩ := k9.c6
    refine bodyPost_ret (v := .tuple #[Lg.zero.v, .slice none 0 0, .int .i64 3]) (by simp [results, Tryd.results15, go_sem, e0, e1, e2, e3, e4, e5]; rfl) rfl ⟨rfl, B2.grown r9 B2.size (fun k hk => by cases hk; omega)⟩

/-- a slice of sectors that reads, in blocks of N -/
structure SecN (N : Nat → Prop) (w : World) (A : Option Addr) (n : Nat) (fs : List (List UInt8)) : Prop where
  len : fs.length = n
  l128 : ∀ s ∈ fs, s.length = 128
  r : ∃ ss : List Sl, RN N w 1 A n (ss.map Sl.v) ∧ Sls N w ss fs
section
variable {N N' : Nat → Prop} {w w' : World} {A : Option Addr} {n : Nat} {fs : List (List UInt8)}
theorem SecN.all (h : SecN N w A n fs) : SecL w A n fs := ⟨h.len, h.l128, h.r.elim fun ss h => ⟨ss, h.1.1, h.2.mono fun _ _ => trivial⟩⟩
theorem SecN.keep (h : SecN N w A n fs) (hb : Below w.heap.size w w') : SecN N w' A n fs := ⟨h.len, h.l128, h.r.elim fun ss h => ⟨ss, h.1.keep hb, h.2.keep hb⟩⟩
theorem SecN.grown {row : Option Nat} (h : SecN N w A n fs) (hg : w.grownBy w' row) (hr : ∀ g, row = some g → ¬ N g) : SecN N w' A n fs := ⟨h.len, h.l128, h.r.elim fun ss h => ⟨ss, h.1.grown hg hr, h.2.grown hg hr⟩⟩
theorem SecN.lt (h : SecN N w A n fs) : SecN (fun b => N b ∧ b < w.heap.size) w A n fs := ⟨h.len, h.l128, h.r.elim fun ss h => ⟨ss, h.1.lt, h.2.lt⟩⟩
theorem SecN.mono (h : SecN N w A n fs) (hN : ∀ b, N b → N' b) : SecN N' w A n fs := ⟨h.len, h.l128, h.r.elim fun ss h => ⟨ss, h.1.mono hN, h.2.mono hN⟩⟩
end
theorem slT : OneC Tryd.prog 78 25 (.slice none 0 0) 24 :=
  ⟨Tryd.underlying78, info_parts (by kernel_rfl : (Tryd.prog.info? 25).map (fun i => (i.zero, i.size, i.bytes)) = some (some (.slice none 0 0), 1, 24)), rfl⟩
theorem recT : ElT Tryd.prog 45 69 (.agg #[.int .u64 0, .slice none 0 0]) 2 32 :=
  ⟨Tryd.underlying45, info_parts (by kernel_rfl : (Tryd.prog.info? 69).map (fun i => (i.zero, i.size, i.bytes)) = some (some (.agg #[.int .u64 0, .slice none 0 0]), 2, 32)), rfl, by omega⟩
theorem equal_any (A B : Option Addr) (n c m d : Nat) (l r : List UInt8) (w : World) (ha : RB w A n l) (hb : RB w B m r) :
    Calls Tryd.prog 40 #[.slice A n c, .slice B m d] w fun e w' => e = .returned (.bool (l == r)) ∧ w = w' := by
  have k1 := run_str ha 25 9 5 c Tryd.underlying25 Tryd.underlying5 Tryd.underlying9
  have k2 := run_str hb 25 9 5 d Tryd.underlying25 Tryd.underlying5 Tryd.underlying9
  go_enter Tryd.func40, Tryd.ntmps40
  go_wp2_with fail
  go_ret
  exact ⟨rfl, rfl⟩
/-- what Open gives -/
def wopenE : Option (Lg × List (List UInt8)) → Nat → Ending → World → World → Prop
  | none, _, e, w, w' => e = .returned (.tuple #[Lg.zero.v, .slice none 0 0, .int .i64 29]) ∧ Below w.heap.size w w'
  | some (l, ps), f, e, w, w' => ∃ s : Sl, e = .returned (.tuple #[l.v, s.v, .int .i64 0]) ∧ RecR (fun b => w.heap.size ≤ b) w' s (recsAt f ps) ∧ Below w.heap.size w w'

set_option maxRecDepth 100000 in
set_option maxHeartbeats 4000000 in
theorem wopen_any (d : DV) (D : Dk) (fr n : Nat) (w : World) (hd : DkV w d D) (hT : Tab w) (h2 : 2 ≤ n) (hin : fr + n ≤ D.n) :
    Calls Tryd.prog 15 #[d.v, .int .i64 fr, .int .i64 n] w fun e w' => wopenE (wopen D.cur fr n) (hdrF (D.cur fr)) e w w' := by
    have hdn := hd.hn
    have hdn2 := hd.n
    have HI := hid (fun w' => inside_yes d fr n 2 w' (by omega) h2 (by omega))
    have HRd := hid (fun (i : Nat) w' (hb : Below w.heap.size w w') (hi : i < n) => read_good d D (fr + i) w' (hd.keep hb) (by omega))
    have HTb := hid hT
    have H128 := hid (fun i (hi : i < D.n) => hd.len hi)
    clear hT hd hdn2
    unfold DV.v at HI HRd ⊢
    go_enter Tryd.func15, Tryd.ntmps15
    go_wp2_with fail
    generalize hw3 : World.alloc (World.alloc w _) _ = v3
    obtain ⟨kd, kl, B⟩ := two_boxes_r (cs1 := d.cs) (cs2 := Lg.zero.cs) hw3
    clear hw3
    refine (HI.out v3).mono ?_
    rintro e v4 ⟨rfl, b4⟩
    replace kd := kd.keep b4
    replace kl := kl.keep b4
    replace B := B.trans (b4.mono B.size)
    clear HI b4
    have hl4 := kl.lt
    obtain ⟨x0, x1, x2, x3, x4⟩ := kd.c5
    have ld := kd.lt
    have R := HRd.out 0 v4 B (by omega)
    rw [Nat.add_zero] at R
    go_wp2_with fail
    refine R.mono ?_
    clear R
    rintro e v5 ⟨g1, rfl, hown, b5⟩
    have hg1 := hown.lt g1 rfl
    have hr : RB v5 (some ⟨g1, 0, none⟩) 128 (D.cur fr) := RL.of_own hown
    replace kd := kd.keep b5
    replace kl := kl.keep b5
    replace B := B.trans (b5.mono B.size)
    clear b5 hown x0 x1 x2 x3 x4 ld
    obtain ⟨s0, hs0⟩ : ∃ z, D.cur fr = z := ⟨_, rfl⟩
    have HS0 := hid hs0
    have hsl : s0.length = 128 := by rw [← hs0]; exact H128.out fr (by omega)
    rw [hs0] at hr
    clear hs0
    go_wp2_with fail
    have bd : Below v5.heap.size v5 v5.drew := (Below.refl _ _).drew
    refine wp_region_head 148 12 [31, 32, 33, 34, 35, 36, 37, 38, 39, 40, 41, 11] [] ((fun kq => ([fun u w' => u = .int .i64 fr, fun u w' => u = .int .i64 n, fun u w' => u = .slice (some ⟨g1, 0, none⟩) 128 128, fun u w' => u = .slice (some ⟨g1, 4, none⟩) 8 124, fun u w' => u = .int .u64 (hdrE s0), fun u w' => u = .slice (some ⟨g1, 0, none⟩) 128 128, fun u w' => u = .slice (some ⟨g1, 12, none⟩) 8 116, fun u w' => u = .int .u64 (hdrF s0), fun u w' => u = .int .i64 fr, fun u w' => u = .int .i64 ((fr : Int) + 1), fun u w' => u = .agg #[.int .i64 fr, .int .i64 n, .int .u64 (hdrE s0), .int .u64 0, .int .u64 (hdrF s0), .int .i64 ((fr : Int) + 1)], fun u w' => ∃ (b11 : Nat), u = .pointer (some ⟨b11, 0, none⟩) ∧ v5.heap.size ≤ b11 ∧ Blk w' b11 44 Lg.zero.cs] : List (Value → World → Prop)).getD kq (fun _ _ => True))) (by kernel_rfl) rfl (by kernel_rfl) (.inl rfl) ?grow ?step ?tail
    case step =>
      simp only [List.take_succ_cons, List.take_zero]
      refine HSteps.cons ?_ ?_
      · intro f w' hb hU
        simp only [putAll, List.foldl_cons, List.foldl_nil]
        go_frame
        go_wp2_with fail
        exact ⟨rfl, _, rfl, Below.refl _ _, rfl⟩
      refine HSteps.cons ?_ ?_
      · intro f w' hb hU
        simp only [putAll, List.foldl_cons, List.foldl_nil]
        go_frame
        go_wp2_with fail
        exact ⟨rfl, _, rfl, Below.refl _ _, rfl⟩
      refine HSteps.cons ?_ ?_
      · intro f w' hb hU
        simp only [putAll, List.foldl_cons, List.foldl_nil]
        go_frame
        go_wp2_with fail
        exact ⟨rfl, _, rfl, Below.refl _ _, rfl⟩
      refine HSteps.cons ?_ ?_
      · intro f w' hb hU
        obtain u2 : f 33 = .slice (some ⟨g1, 0, none⟩) 128 128 := hU.get ⟨2, .data⟩ (by simp) rfl
        simp only [putAll, List.foldl_cons, List.foldl_nil]
        go_frame
        try simp only [u2]
        go_wp2_with fail
        exact ⟨rfl, _, rfl, Below.refl _ _, rfl⟩
      refine HSteps.cons ?_ ?_
      · intro f w' hb hU
        obtain u3 : f 34 = .slice (some ⟨g1, 4, none⟩) 8 124 := hU.get ⟨3, .data⟩ (by simp) rfl
        simp only [putAll, List.foldl_cons, List.foldl_nil]
        go_frame
        try simp only [u3]
        go_wp2_with fail
        refine (value_any (some ⟨g1, 0 + 4, none⟩) 8 124 ((s0.drop 4).take 8) w' ((hr.below hb).sub 4 8 (by omega)) (by omega)).mono ?_
        rintro e w3 ⟨rfl, rfl⟩
        go_wp2_with fail
        exact ⟨rfl, _, rfl, Below.refl  _ _, rfl⟩
      refine HSteps.cons ?_ ?_
      · intro f w' hb hU
        simp only [putAll, List.foldl_cons, List.foldl_nil]
        go_frame
        go_wp2_with fail
        exact ⟨rfl, _, rfl, Below.refl _ _, rfl⟩
      refine HSteps.cons ?_ ?_
      · intro f w' hb hU
        obtain u5 : f 36 = .slice (some ⟨g1, 0, none⟩) 128 128 := hU.get ⟨5, .data⟩ (by simp) rfl
        simp only [putAll, List.foldl_cons, List.foldl_nil]
        go_frame
        try simp only [u5]
        go_wp2_with fail
        exact ⟨rfl, _, rfl, Below.refl _ _, rfl⟩
      refine HSteps.cons ?_ ?_
      · intro f w' hb hU
        obtain u6 : f 37 = .slice (some ⟨g1, 12, none⟩) 8 116 := hU.get ⟨6, .data⟩ (by simp) rfl
        obtain u4 : f 35 = .int .u64 (hdrE s0) := hU.get ⟨4, .chain⟩ (by simp) rfl
        simp only [putAll, List.foldl_cons, List.foldl_nil]
        go_frame
        try simp only [u6, u4]
        go_wp2_with fail
        refine (value_any (some ⟨g1, 0 + 12, none⟩) 8 116 ((s0.drop 12).take 8) w' ((hr.below hb).sub 12 8 (by omega)) (by omega)).mono ?_
        rintro e w3 ⟨rfl, rfl⟩
        go_wp2_with fail
        exact ⟨rfl, _, rfl, Below.refl  _ _, rfl⟩
      refine HSteps.cons ?_ ?_
      · intro f w' hb hU
        simp only [putAll, List.foldl_cons, List.foldl_nil]
        go_frame
        go_wp2_with fail
        exact ⟨rfl, _, rfl, Below.refl _ _, rfl⟩
      refine HSteps.cons ?_ ?_
      · intro f w' hb hU
        obtain u8 : f 39 = .int .i64 fr := hU.get ⟨8, .data⟩ (by simp) rfl
        simp only [putAll, List.foldl_cons, List.foldl_nil]
        go_frame
        try simp only [u8]
        go_wp2_with fail
        exact ⟨rfl, _, rfl, Below.refl _ _, rfl⟩
      refine HSteps.cons ?_ ?_
      · intro f w' hb hU
        obtain u0 : f 31 = .int .i64 fr := hU.get ⟨0, .data⟩ (by simp) rfl
        obtain u1 : f 32 = .int .i64 n := hU.get ⟨1, .data⟩ (by simp) rfl
        obtain u4 : f 35 = .int .u64 (hdrE s0) := hU.get ⟨4, .data⟩ (by simp) rfl
        obtain u7 : f 38 = .int .u64 (hdrF s0) := hU.get ⟨7, .data⟩ (by simp) rfl
        obtain u9 : f 40 = .int .i64 ((fr : Int) + 1) := hU.get ⟨9, .data⟩ (by simp) rfl
        simp only [putAll, List.foldl_cons, List.foldl_nil]
        go_frame
        try simp only [u0, u1, u4, u7, u9]
        go_wp2_with fail
        exact ⟨rfl, _, rfl, Below.refl _ _, rfl⟩
      refine HSteps.cons ?_ ?_
      · intro f w' hb hU
        have hP : Blk _ w'.heap.size 44 Lg.zero.cs := Blk.new w' _ _
        have hb3 : Below w'.heap.size w' _ := (Below.refl _ _).alloc (Nat.le_refl _) (.cells (Lg.zero.cs).toArray 44)
        simp only [putAll, List.foldl_cons, List.foldl_nil]
        go_frame
        go_wp2_with fail
        exact ⟨rfl, _, rfl, hb3, _, rfl, hb.size, hP⟩
      exact HSteps.nil
    case grow =>
      intro kq u wa wb hb hu
      rcases kq with _ | _ | _ | _ | _ | _ | _ | _ | _ | _ | _ | _ | kq
      · exact hu
      · exact hu
      · exact hu
      · exact hu
      · exact hu
      · exact hu
      · exact hu
      · exact hu
      · exact hu
      · exact hu
      · exact hu
      · obtain ⟨b11, ue, uf0, uf1⟩ := hu
        exact ⟨b11, ue, uf0, uf1.keep hb⟩
      · trivial
    case tail =>
      intro f w7 hb7 hU
      obtain u10 : f 41 = .agg #[.int .i64 fr, .int .i64 n, .int .u64 (hdrE s0), .int .u64 0, .int .u64 (hdrF s0), .int .i64 ((fr : Int) + 1)] := hU.get 10 (by decide)
      obtain ⟨b11, u11, v11_0, v11_1⟩ : ∃ (b11 : Nat), f 11 = .pointer (some ⟨b11, 0, none⟩) ∧ v5.heap.size ≤ b11 ∧ Blk w7 b11 44 Lg.zero.cs := hU.get 11 (by decide)
      simp only [List.drop_succ_cons, List.drop_zero, putAll, List.foldl_cons, List.foldl_nil]
      go_frame
      simp only [u10, u11]
      clear u10 u11
      clear hU
      replace kd := kd.keep hb7
      replace kl := kl.keep hb7
      replace hr := hr.below hb7
      replace B := B.trans (hb7.mono B.size)
      have ll := And.intro kd.lt kl.lt
      have hgb : w.heap.size + 2 ≤ v5.heap.size := by have := hg1.1; have := hg1.2; omega
      have nG : ¬ b11 = w.heap.size ∧ ¬ b11 = w.heap.size + 1 := ⟨by omega, by omega⟩
      have nr : b11 ≠ g1 := by have := hg1.2; omega
      have hwb : w.heap.size ≤ b11 := by omega
      have HWO : Hid (wopen D.cur fr n = if hdrOk s0 then some (⟨fr, n, hdrE s0, (latest (hdrE s0) (regn D.cur fr n) + 1) % 18446744073709551616, (hdrF s0 + (scan (n - 1) (hdrE s0) (hdrF s0) 1 (regn D.cur fr n)).1.length) % 18446744073709551616, fr + 1 + (scan (n - 1) (hdrE s0) (hdrF s0) 1 (regn D.cur fr n)).2⟩, (scan (n - 1) (hdrE s0) (hdrF s0) 1 (regn D.cur fr n)).1) else none) := by
        show _ = _
        unfold wopen
        rw [HS0.out]
      have HOK : Hid (hdrOk s0 ↔ hdrE s0 ≠ 0 ∧ hdrF s0 ≠ 0 ∧ s0 = hdr (hdrE s0) (hdrF s0)) := hid Iff.rfl
      have lE : hdrE s0 < 18446744073709551616 := by
        unfold hdrE
        have := num_lt ((s0.drop 4).take 8)
        rw [show ((s0.drop 4).take 8).length = 8 by simp [hsl]] at this
        exact this
      have lF : hdrF s0 < 18446744073709551616 := by
        unfold hdrF
        have := num_lt ((s0.drop 12).take 8)
        rw [show ((s0.drop 12).take 8).length = 8 by simp [hsl]] at this
        exact this
      have HFi : Hid (hdrF (D.cur fr) = hdrF s0) := hid (by rw [HS0.out])
      clear hb7 bd HS0 v11_0
      have lg_one6 : ∀ v ∈ (⟨fr, n, hdrE s0, 0, hdrF s0, fr + 1⟩ : Lg).cs, v.oneCell' = true := lg_one _
      generalize hdrE s0 = ep at *
      generalize hdrF s0 = ft at *
      by_cases hok : hdrOk s0
      · obtain ⟨p1, p2, p3⟩ := HOK.out.1 hok
        rw [if_pos hok] at HWO
        clear HOK hok
        have y1 : ((ep : Int) == 0) = false := by rw [beq_eq_false_iff_ne]; omega
        have y2 : ((ft : Int) == 0) = false := by rw [beq_eq_false_iff_ne]; omega
        have HP3 := hid p3
        have HP12 := hid (And.intro p1 p2)
        clear p3 p1 p2
        go_wp2_with ((with_reducible refine is_store 44 ?_); refine wp_storeB b11 _ _ (⟨fr, n, ep, 0, ft, fr + 1⟩ : Lg).cs v11_1 logN rfl lg_one6 rfl rfl ?_; intro w8 k8 r8; go_frame; obtain ⟨e0, e1, e2, e3, e4, e5⟩ := k8.c6; have lb := k8.lt)
        replace kd := kd.grown r8 (by simpa using nG.1)
        replace kl := kl.grown r8 (by simpa using nG.2)
        replace hr : RB w8 (some ⟨g1, 0, none⟩) 128 s0 := RL.grown hr r8 (fun g hg _ b o hA he => by cases hg; cases hA; exact nr he.symm)
        have B8 := B.grown r8 B.size (fun k hk => by cases hk; exact hwb)
        clear v11_1 r8 B
        refine (header_any ep ft w8 lE lF (HTb.out.keep B8)).mono ?_
        rintro e v9 ⟨gh, rfl, hgh, kh, b9⟩
        have hrh := kh.cells (hdr_len ep ft)
        replace kd := kd.keep b9
        replace kl := kl.keep b9
        replace k8 := k8.keep b9
        replace hr := hr.below b9
        have B := B8.trans (b9.mono B8.size)
        clear e0 e1 e2 e3 e4 e5 lb B8 b9 kh
        go_wp2_with fail
        have R := equal_any _ _ 128 128 128 128 _ _ v9 hr hrh
        rw [show (s0 == hdr ep ft) = true from beq_iff_eq.2 HP3.out] at R
        refine R.mono ?_
        clear R
        rintro e w' ⟨rfl, rfl⟩
        clear hrh hr nr y1 y2
        obtain ⟨m, hm⟩ : ∃ z, n - 1 = z := ⟨_, rfl⟩
        have em : (n : Int) - 1 = (m : Int) := by omega
        have hnm : Hid (n = m + 1) := hid (by omega)
        have hnm1 : m < n := by omega
        have hnm2 : n ≤ m + 1 := by omega
        have hmm : m ≤ 16384 := by omega
        rw [hm] at HWO
        clear hm
        go_wp2_with (at_make; refine wp_make _ rfl _ _ 78 rfl v9.heap.size 25 _ 24 slT rfl .i64 .i64 _ _ m rfl rfl (by omega) (by omega) (by omega) (by unfold maxLen; omega) (Nat.le_refl _) ?_; intro v10 k10 r10; go_frame)
        have hgs := And.intro kd.lt (And.intro kl.lt k8.lt)
        have hb10 : w.heap.size ≤ v9.heap.size := B.size
        have hs10 := (k10.lt v9.heap.size rfl).2
        replace kd := kd.grown r10 (by intro h; cases h)
        replace kl := kl.grown r10 (by intro h; cases h)
        replace k8 := k8.grown r10 (by intro h; cases h)
        replace B := B.grown r10 B.size (fun k hk => by cases hk)
        generalize v9.heap.size = gs at *
        clear r10 em
        go_loopw [66] (fun i wr => ∃ (k : Nat) (ss : List Sl), k ≤ m ∧ i = .int .i64 k ∧ ss.length = k ∧ wr.ownsRow gs 25 1 (.slice (some ⟨gs, 0, none⟩) m m) m (ss.map Sl.v ++ List.replicate (m - k) (.slice none 0 0)) ∧ Sls (fun b => gs < b) wr ss ((List.range k).map fun i => D.cur (fr + 1 + i)) ∧
          Blk wr w.heap.size 38 d.cs ∧ Blk wr (w.heap.size + 1) 44 Lg.zero.cs ∧ Blk wr b11 44 (⟨fr, n, ep, 0, ft, fr + 1⟩ : Lg).cs ∧ Below w.heap.size w wr) (fun i _ => m - (intOf i).toNat)
        case atStart => exact ⟨0, [], Nat.zero_le _, rfl, rfl, by simpa using k10, Sls.nil, kd, kl, k8, B⟩
        case round =>
          obtain ⟨k, ss, hk, rfl, hss, hown, hsl', kd, kl, k8, hbel⟩ := hrel
          by_cases hlt : k < m
          · obtain ⟨x0, x1, x2, x3, x4⟩ := kd.c5
            have ld := kd.lt
            have R := HRd.out (1 + k) wr hbel (by omega)
            rw [show ((fr + (1 + k) : Nat) : Int) = (fr : Int) + 1 + (k : Int) by omega, show fr + (1 + k) = fr + 1 + k by omega] at R
            have h16 : fr + 1 + k < D.n := by omega
            go_wp2_with fail
            refine R.mono ?_
            clear R
            rintro e w11 ⟨g2, rfl, hown2, b2⟩
            have hg2 := (hown.lt gs rfl).2
            have hs2 : SlR (fun b => gs < b) w11 ⟨some ⟨g2, 0, none⟩, 128, 128⟩ (D.cur (fr + 1 + k)) := ⟨RN.own hown2 (fun b hb => by omega), Nat.le_refl _, (by decide : (128 : Nat) ≤ 9223372036854775807)⟩
            replace hown := own_below hown b2
            replace hsl' := hsl'.keep b2
            replace kd := kd.keep b2
            replace kl := kl.keep b2
            replace k8 := k8.keep b2
            replace hbel := hbel.trans (b2.mono hbel.size)
            obtain ⟨g3, e3, hge, hgl, hcz, hfz, hset⟩ := own_set hown hlt
            cases e3
            clear x0 x1 x2 x3 x4 ld hown2 b2
            have hcz' : w11.cell? ⟨gs, k, none⟩ = some (.slice none 0 0) := by
              rw [hcz, List.getElem?_append_right (by simp; omega), List.getElem?_replicate, if_pos (by simp; omega)]
            clear hcz
            go_wp2_with fail
            obtain ⟨hown3, r3⟩ := hset (.slice (some ⟨g2, 0, none⟩) 128 128)
            clear hset hcz' hfz
            generalize w11.setCell _ _ = w12 at hown3 r3 ⊢
            go_roundw
            case rel =>
              refine ⟨k + 1, ss ++ [⟨some ⟨g2, 0, none⟩, 128, 128⟩], by omega, by go_num, by simp [hss], ?_, ?_, kd.grown r3 (by simp; omega), kl.grown r3 (by simp; omega), k8.grown r3 (by simp; omega), hbel.grown r3 hbel.size (fun q hq => by cases hq; exact hb10)⟩
              · rw [List.set_append_right _ _ (by simp; omega), List.length_map, hss, Nat.sub_self] at hown3
                rw [List.map_append, List.append_assoc]
                obtain ⟨q, hq⟩ : ∃ q, m - k = q + 1 := ⟨m - k - 1, by omega⟩
                rw [hq, List.replicate_succ, List.set_cons_zero] at hown3
                rw [show m - (k + 1) = q by omega]
                exact hown3
              · rw [List.range_succ, List.map_append]
                exact (hsl'.grown r3 (fun g hg hN => by cases hg; omega)).snoc (hs2.grown r3 (fun g hg hN => by cases hg; omega))
            case measure => simp [intOf]; omega
          · obtain rfl : k = m := by omega
            clear hlt hk
            rw [Nat.sub_self, List.replicate_zero, List.append_nil] at hown
            obtain ⟨FS, hFS⟩ : ∃ z, regn D.cur fr n = z := ⟨_, rfl⟩
            have eFS : FS = (List.range k).map fun i => D.cur (fr + 1 + i) := by rw [← hFS]; unfold regn; rw [hnm.out]; rfl
            rw [hFS] at HWO
            have hwg : gs < wr.heap.size := (hown.lt gs rfl).2
            have HSN : SecN (fun b => gs ≤ b ∧ b < wr.heap.size) wr (some ⟨gs, 0, none⟩) k FS := by
              refine ⟨by rw [eFS]; simp, fun s hs => ?_, ss, ?_, ?_⟩
              · rw [eFS, List.mem_map] at hs
                obtain ⟨i, hi, rfl⟩ := hs
                have := List.mem_range.1 hi
                exact H128.out _ (by omega)
              · exact (RN.own hown (N := fun b => gs ≤ b) (fun b hb => hb)).lt
              · rw [eFS]
                exact hsl'.lt.mono fun b hb => ⟨Nat.le_of_lt hb.1, hb.2⟩
            have hFl : FS.length = k := HSN.len
            have HSC : Scn k ep ft FS 0 ft 1 [] := Scn.start (by omega) lF
            clear hFS eFS hsl' hown hss kd
            obtain ⟨h0, hh0⟩ : ∃ z, z = wr.heap.size := ⟨_, rfl⟩
            rw [← hh0] at HSN
            have hgs' : b11 < gs := hgs.2.2
            have hgs1 : w.heap.size + 1 < gs := hgs.2.1
            have hgh : gs < h0 := by omega
            have hb0 : w.heap.size ≤ h0 := by rw [hh0]; exact hbel.size
            go_upto_block 2 with fail
            go_cut [14] (fun v wx => ∃ (j nx : Nat) (ps : List (List UInt8)) (ws : List (Nat × Sl)), j ≤ k ∧ wx.ownsRow h0 69 2 v ps.length (ws.flatMap recCs) ∧ Sls (fun b => h0 ≤ b ∧ v.ownBlock ≠ some b) wx (ws.map (·.2)) ps ∧ Hid (ws.map (·.1) = (recsAt ft ps).map (·.1)) ∧ Hid (nx = (ft + ps.length) % 18446744073709551616) ∧ nx < 18446744073709551616 ∧ Hid (scan k ep ft 1 FS = (ps, j)) ∧
              Blk wx b11 44 (⟨fr, n, ep, 0, nx, fr + 1 + j⟩ : Lg).cs ∧ Blk wx (w.heap.size + 1) 44 Lg.zero.cs ∧ SecN (fun b => gs ≤ b ∧ b < h0) wx (some ⟨gs, 0, none⟩) k FS ∧ Below w.heap.size w wx ∧ h0 ≤ wx.heap.size)
            case first =>
              go_wp2_with fail
              go_loopg [14, 15] k (fun gh v l wq => ∃ (j nx g : Nat) (ps : List (List UInt8)) (ws : List (Nat × Sl)), gh + j = k ∧ l = .int .u64 g ∧ wq.ownsRow h0 69 2 v ps.length (ws.flatMap recCs) ∧ Sls (fun b => h0 ≤ b ∧ v.ownBlock ≠ some b) wq (ws.map (·.2)) ps ∧ Hid (ws.map (·.1) = (recsAt ft ps).map (·.1)) ∧ Scn k ep ft FS j nx g ps ∧
                Blk wq b11 44 (⟨fr, n, ep, 0, nx, fr + 1 + j⟩ : Lg).cs ∧ Blk wq (w.heap.size + 1) 44 Lg.zero.cs ∧ SecN (fun b => gs ≤ b ∧ b < h0) wq (some ⟨gs, 0, none⟩) k FS ∧ Below w.heap.size w wq ∧ h0 ≤ wq.heap.size)
              case atStart => exact ⟨0, ft, 1, [], [], by omega, rfl, World.ownsRow_nil _ _ _ _, Sls.nil, hid rfl, HSC, k8, kl, HSN, hbel, by omega⟩
              case round =>
                obtain ⟨j, nx, g, ps, ws, hj, rfl, hown, hsl', HWS, HSC', k8', kl', HSN', hbq, hhq⟩ := hrel
                clear k8 kl HSN HSC hbel
                have hnx : nx < 18446744073709551616 := by rw [HSC'.hn]; exact Nat.mod_lt _ (by omega)
                have lb := k8'.lt
                obtain ⟨e0, e1, e2, e3, e4, e5⟩ := k8'.c6
                dsimp only at e0 e1 e2 e3 e4 e5
                by_cases hjk : j < k
                · have t1 : ((fr + 1 + j : Nat) : Int) < (fr : Int) + (n : Int) := by omega
                  have ej : ((fr : Int) + 1 + (j : Int)) - (fr : Int) - 1 = (j : Int) := by omega
                  have ks : ∀ wx, (Instr.slice 78 (.slice (some ⟨gs, 0, none⟩) k k) (some (.int .i64 (j : Int))) none none).run Tryd.prog wx = .ok (.slice (some ⟨gs, j, none⟩) (k - j) (k - j)) wx := fun wx => by
                    have := run_from (P := Tryd.prog) 78 25 Tryd.underlying78 (by kernel_rfl) (some ⟨gs, 0, none⟩) k k j .i64 (j : Int) rfl (by omega) wx
                    rw [if_neg (by omega)] at this
                    simpa [add_spot] using this
                  have hcut : SecL wr (some ⟨gs, j, none⟩) (k - j) (FS.drop j) := by
                    have := HSN'.all.cut (k := j) (c := k) (by omega) (Nat.le_refl _)
                    rw [if_neg (by omega)] at this
                    simpa [add_spot] using this
                  have R := intact_any (some ⟨gs, j, none⟩) (k - j) (k - j) (FS.drop j) wr (HTb.out.keep hbq) hcut (by omega) (Nat.le_refl _) (by omega)
                  cases hi : intactP (FS.drop j) with
                  | none =>
                    have HST : Hid (scan k ep ft 1 FS = (ps, j)) := hid (HSC'.stop (by omega) (by rw [hi]; intro t p k' h; cases h))
                    rw [hi] at R
                    clear hi hcut
                    go_wp2_with fail
                    refine R.mono ?_
                    clear R
                    rintro e w4 ⟨rfl, b4⟩
                    clear e0 e1 e2 e3 e4 e5 lb ks
                    go_wp2_with (first
                      | ((with_reducible refine is_alloc 95 ?_); refine wp_allocB (w := w4) _ arrTag ?_; intro w5 k5 b5 s5; go_frame)
                      | ((with_reducible refine is_store 95 ?_); refine wp_storeB w4.heap.size _ _ tagZ k5 tagN rfl (by decide) rfl rfl ?_; intro w6 k6 r6; go_frame; have k9 := ((k8'.keep b4).keep b5).grown r6 (by have := k8'.lt; have := b4.size; simp; omega); obtain ⟨e0, e1, e2, e3, e4, e5⟩ := k9.c6; dsimp only at e0 e1 e2 e3 e4 e5; have lb := k9.lt))
                    have k9 := ((k8'.keep b4).keep b5).grown r6 (by have := k8'.lt; have := b4.size; simp; omega)
                    have kl9 := ((kl'.keep b4).keep b5).grown r6 (by have := kl'.lt; have := b4.size; simp; omega)
                    have s4 : wr.heap.size ≤ w4.heap.size := b4.size
                    have SN9 := ((HSN'.keep b4).keep b5).grown r6 (fun g hg hN => by cases hg; have := hN.2; omega)
                    have own9 := (own_below (own_below hown b4) b5).kept r6 (.inr (fun hq => by have := (hown.lt _ hq).2; omega))
                    have sl9 := (((hsl'.lt.keep b4).keep b5).grown r6 (fun g hg hN => by cases hg; have := hN.2; omega)).mono (N' := fun b => h0 ≤ b ∧ u14.ownBlock ≠ some b) (fun b hb => hb.1)
                    have B4 := hbq.trans (b4.mono hbq.size)
                    have B5 := B4.trans (b5.mono B4.size)
                    have B9 := B5.grown r6 B5.size (fun k hk => by cases hk; exact B4.size)
                    have hh9 : h0 ≤ w6.heap.size := by have := b5.size; have := r6.size; omega
                    clear k8' kl' HSN' hown hsl' hbq hhq b4 b5 r6 k5 s5 B4 B5 s4
                    go_meet
                    case rel => exact ⟨j, nx, ps, ws, by omega, own9, sl9, HWS, hid HSC'.hn, hnx, HST, k9, kl9, SN9, B9, hh9⟩
                  | some x =>
                    obtain ⟨t, p, q⟩ := x
                    have HII := hid hi
                    rw [hi] at R
                    obtain ⟨q1, q2, q3⟩ := intactP_pos hi
                    rw [List.length_drop] at q2
                    clear hi hcut
                    go_wp2_with fail
                    refine R.mono ?_
                    clear R
                    rintro e w4 ⟨sp, rfl, hsp, b4⟩
                    clear e0 e1 e2 e3 e4 e5 lb ks
                    by_cases hy : tE t = ep ∧ tL t = nx ∧ g ≤ tG t
                    · have HSN2 := hid (HSC'.next HII.out hy)
                      have hpl := HSC'.l
                      have y0 : ((q : Int) == 0) = false := by rw [beq_eq_false_iff_ne]; omega
                      have y1 : ((tE t : Int) != (ep : Int)) = false := by rw [bne_eq_false_iff_eq]; omega
                      have y2 : ((tL t : Int) != (nx : Int)) = false := by rw [bne_eq_false_iff_eq]; omega
                      have y3 : ¬ (tG t : Int) < (g : Int) := by omega
                      have HWS2 : Hid ((ws ++ [(tL t, sp)]).map (·.1) = (recsAt ft (ps ++ [p])).map (·.1)) := by
                        show _ = _
                        rw [recsAt_snoc _ _ _ lF, List.map_append, List.map_append, HWS.out, hy.2.1, HSC'.hn]
                        rfl
                      obtain ⟨nx2, hnx2⟩ : ∃ z, (nx + 1) % 18446744073709551616 = z := ⟨_, rfl⟩
                      rw [hnx2] at HSN2
                      have eg : IntKind.u64.wrap ((nx : Int) + 1) = (nx2 : Int) := by rw [IntKind.wrap_u64]; omega
                      clear HII hy hnx2
                      unfold Sl.v tagV
                      have ht1 : ∀ v ∈ tagCs t, v.oneCell' = true := tag_one t
                      unfold tagCs at ht1
                      generalize tE t = t1 at *
                      generalize tG t = t2 at *
                      generalize tL t = t3 at *
                      have s4 : wr.heap.size ≤ w4.heap.size := b4.size
                      go_wp2_with (first
                        | ((with_reducible refine is_alloc 95 ?_); refine wp_allocB (w := w4) _ arrTag ?_; intro w5 k5 b5 s5; go_frame)
                        | ((with_reducible refine is_store 95 ?_); refine wp_storeB w4.heap.size _ _ [.int .u64 t1, .int .u64 t2, .int .u64 t3] k5 tagN rfl ht1 rfl rfl ?_; intro w6 k6 r6; go_frame; have k9 := ((k8'.keep b4).keep b5).grown r6 (by have := k8'.lt; simp; omega); obtain ⟨e0, e1, e2, e3, e4, e5⟩ := k9.c6; dsimp only at e0 e1 e2 e3 e4 e5; have lb := k9.lt; obtain ⟨z0, z1, z2⟩ := k6.c3; have lz := k6.lt; have own9 := (own_below (own_below hown b4) b5).kept r6 (.inr (fun hq => by have := (hown.lt _ hq).2; omega)); have hh9 : h0 ≤ w6.heap.size := by (have := b5.size; have := r6.size; omega))
                        | (at_builtin; refine wp_appN rfl _ _ 45 rfl h0 69 _ 2 32 recT u14 ps.length (ws.flatMap recCs) (own9.alloc _) rfl _ 1 1 [.int .u64 t3, .slice sp.A sp.n sp.c] (RL.new w6 _ _ _ 2 1 rfl) rfl (rec_one [(t3, sp)]) (by unfold maxLen; omega) (by omega) (by simp; omega) ?_; intro v7 w7 hown7 r7 a7; go_frame; have k10 := (k9.keep ((Below.refl _ _).alloc (Nat.le_refl _) (.cells #[.int .u64 t3, .slice sp.A sp.n sp.c] 69))).grown r7 (fun hq => by have := (hown.lt _ hq).1; omega); have k17 := (k6.keep ((Below.refl _ _).alloc (Nat.le_refl _) (.cells #[.int .u64 t3, .slice sp.A sp.n sp.c] 69))).grown r7 (fun hq => by have := (hown.lt _ hq).2; omega); clear z0 z1 z2 e0 e1 e2 e3 e4 e5 lb lz; obtain ⟨e0, e1, e2, e3, e4, e5⟩ := k10.c6; dsimp only at e0 e1 e2 e3 e4 e5; have lb := k10.lt; obtain ⟨z0, z1, z2⟩ := k17.c3; have lz := k17.lt)
                        | ((with_reducible refine is_store 27 ?_); refine wp_store1 b11 4 _ _ (.int .u64 nx2) k10 rfl numN.1 (by simp [Lg.cs]) rfl rfl rfl ?_; intro w8 k11 r8; go_frame; clear z0 z1 z2 e0 e1 e2 e3 e4 e5 lb lz; have k11' : Blk w8 b11 44 (⟨fr, n, ep, 0, nx2, fr + 1 + j⟩ : Lg).cs := k11; obtain ⟨e0, e1, e2, e3, e4, e5⟩ := k11'.c6; dsimp only at e0 e1 e2 e3 e4 e5; have lb := k11'.lt)
                        | ((with_reducible refine is_store 3 ?_); refine wp_store1 b11 5 _ _ (.int .i64 ((fr : Int) + 1 + (j : Int) + (q : Int))) k11' rfl numN.2 (by simp [Lg.cs]) rfl rfl rfl ?_; intro w9 k12 r9; go_frame))
                      have ba : Below w6.heap.size w6 (w6.alloc (.cells #[.int .u64 t3, .slice sp.A sp.n sp.c] 69)) := (Below.refl _ _).alloc (Nat.le_refl _) _
                      have k12' : Blk w9 b11 44 (⟨fr, n, ep, 0, nx2, fr + 1 + (j + q)⟩ : Lg).cs := by
                        have := k12
                        simp only [Lg.cs, List.set_cons_succ, List.set_cons_zero] at this ⊢
                        rw [show ((fr + 1 + (j + q) : Nat) : Int) = (fr : Int) + 1 + (j : Int) + (q : Int) by omega]
                        exact this
                      have no7 : ∀ g, u14.ownBlock = some g → h0 ≤ g ∧ g < wr.heap.size := fun g hg => hown.lt g hg
                      have kl9 := (((((kl'.keep b4).keep b5).grown r6 (by have := kl'.lt; simp; omega)).keep ba).grown r7 (fun hq => by have := (no7 _ hq).1; omega)).grown r8 (by simp; omega) |>.grown r9 (by simp; omega)
                      have SN9 := (((((HSN'.keep b4).keep b5).grown r6 (fun g hg hN => by cases hg; have := hN.2; omega)).keep ba).grown r7 (fun g hg hN => by have := (no7 _ hg).1; have := hN.2; omega)).grown r8 (fun g hg hN => by cases hg; have := hN.1; omega) |>.grown r9 (fun g hg hN => by cases hg; have := hN.1; omega)
                      have own12 := (hown7.kept r8 (.inr (fun hq => by have := (hown7.lt _ hq).1; omega))).kept r9 (.inr (fun hq => by have := (hown7.lt _ hq).1; omega))
                      have sa : Sls (fun b => h0 ≤ b ∧ u14.ownBlock ≠ some b) (w6.alloc (.cells #[.int .u64 t3, .slice sp.A sp.n sp.c] 69)) (ws.map (·.2)) ps := ((((hsl'.lt.keep b4).keep b5).grown r6 (fun g hg hN => by cases hg; have := hN.2; omega)).mono (fun b hb => hb.1)).keep ba
                      have sb : SlR (fun b => h0 ≤ b ∧ u14.ownBlock ≠ some b) (w6.alloc (.cells #[.int .u64 t3, .slice sp.A sp.n sp.c] 69)) sp p := (((hsp.lt.keep b5).grown r6 (fun g hg hN => by cases hg; have := hN.2; omega)).mono (fun b hb => ⟨by have := hb.1; omega, fun hq => by have := (no7 _ hq).2; have := hb.1; omega⟩)).keep ba
                      have sc := ((Sls.app (N := fun b => h0 ≤ b) sa sb r7 a7).grown r8 (fun g hg hN => by cases hg; have := hN.1; omega)).grown r9 (fun g hg hN => by cases hg; have := hN.1; omega)
                      have B4 := hbq.trans (b4.mono hbq.size)
                      have B5 := B4.trans (b5.mono B4.size)
                      have B6 := B5.grown r6 B5.size (fun k hk => by cases hk; exact B4.size)
                      have B7 := (B6.trans (ba.mono B6.size)).grown r7 (B6.trans (ba.mono B6.size)).size (fun g hg => by have := (no7 _ hg).1; omega)
                      have B8 := B7.grown r8 B7.size (fun k hk => by cases hk; exact hwb)
                      have B9 := B8.grown r9 B8.size (fun k hk => by cases hk; exact hwb)
                      have hh12 : h0 ≤ w9.heap.size := by have := ba.size; have := r7.size; have := r8.size; have := r9.size; omega
                      clear e0 e1 e2 e3 e4 e5 lb k8' kl' HSN' hown hsl' hsp hbq hhq b4 b5 k5 s5 k6 r6 k9 own9 hh9 hown7 r7 a7 k10 k17 k11 k11' r8 k12 r9 ba sa sb B4 B5 B6 B7 B8 no7
                      go_roundg (k - (j + q))
                      case measure => omega
                      case rel =>
                        refine ⟨j + q, nx2, t2, ps ++ [p], ws ++ [(t3, sp)], by omega, rfl, ?_, ?_, HWS2, HSN2.out, k12', kl9, SN9, B9, hh12⟩
                        · rw [List.length_append, List.flatMap_append]
                          exact own12
                        · rw [List.map_append]
                          exact sc
                    · have HST : Hid (scan k ep ft 1 FS = (ps, j)) := hid (HSC'.stop (by omega) (by rw [HII.out]; intro t' p' k' h; cases h; exact hy))
                      have y0 : ((q : Int) == 0) = false := by rw [beq_eq_false_iff_ne]; omega
                      have hyy : ((tE t : Int) != (ep : Int)) = true ∨ (((tE t : Int) != (ep : Int)) = false ∧ ((tL t : Int) != (nx : Int)) = true) ∨ (((tE t : Int) != (ep : Int)) = false ∧ ((tL t : Int) != (nx : Int)) = false ∧ (tG t : Int) < (g : Int)) := by
                        simp only [bne_iff_ne, bne_eq_false_iff_eq]
                        omega
                      clear HII hy
                      unfold Sl.v tagV
                      have ht1 : ∀ v ∈ tagCs t, v.oneCell' = true := tag_one t
                      unfold tagCs at ht1
                      generalize tE t = t1 at *
                      generalize tG t = t2 at *
                      generalize tL t = t3 at *
                      rcases hyy with y1 | ⟨y1, y2⟩ | ⟨y1, y2, y3⟩
                      all_goals (
                        go_wp2_with (first
                          | ((with_reducible refine is_alloc 95 ?_); refine wp_allocB (w := w4) _ arrTag ?_; intro w5 k5 b5 s5; go_frame)
                          | ((with_reducible refine is_store 95 ?_); refine wp_storeB w4.heap.size _ _ [.int .u64 t1, .int .u64 t2, .int .u64 t3] k5 tagN rfl ht1 rfl rfl ?_; intro w6 k6 r6; go_frame; have k9 := ((k8'.keep b4).keep b5).grown r6 (by have := k8'.lt; have := b4.size; simp; omega); obtain ⟨e0, e1, e2, e3, e4, e5⟩ := k9.c6; dsimp only at e0 e1 e2 e3 e4 e5; have lb := k9.lt; obtain ⟨z0, z1, z2⟩ := k6.c3; have lz := k6.lt))
                        clear z0 z1 z2 lz
                        have k9 := ((k8'.keep b4).keep b5).grown r6 (by have := k8'.lt; have := b4.size; simp; omega)
                        have kl9 := ((kl'.keep b4).keep b5).grown r6 (by have := kl'.lt; have := b4.size; simp; omega)
                        have s4 : wr.heap.size ≤ w4.heap.size := b4.size
                        have SN9 := ((HSN'.keep b4).keep b5).grown r6 (fun g hg hN => by cases hg; have := hN.2; omega)
                        have own9 := (own_below (own_below hown b4) b5).kept r6 (.inr (fun hq => by have := (hown.lt _ hq).2; omega))
                        have sl9 := (((hsl'.lt.keep b4).keep b5).grown r6 (fun g hg hN => by cases hg; have := hN.2; omega)).mono (N' := fun b => h0 ≤ b ∧ u14.ownBlock ≠ some b) (fun b hb => hb.1)
                        have B4 := hbq.trans (b4.mono hbq.size)
                        have B5 := B4.trans (b5.mono B4.size)
                        have B9 := B5.grown r6 B5.size (fun k hk => by cases hk; exact B4.size)
                        have hh9 : h0 ≤ w6.heap.size := by have := b5.size; have := r6.size; omega
                        clear k8' kl' HSN' hown hsl' hbq hhq b4 b5 r6 k5 s5 B4 B5 s4
                        go_meet
                        case rel => exact ⟨j, nx, ps, ws, by omega, own9, sl9, HWS, hid HSC'.hn, hnx, HST, k9, kl9, SN9, B9, hh9⟩
                        )
                · obtain rfl : j = k := by omega
                  have t1 : ¬ ((fr + 1 + j : Nat) : Int) < (fr : Int) + (n : Int) := by omega
                  have HST : Hid (scan j ep ft 1 FS = (ps, j)) := hid (HSC'.done (by omega))
                  go_wp2_with fail
                  go_meet
                  case rel => exact ⟨j, nx, ps, ws, by omega, hown, hsl', HWS, hid HSC'.hn, hnx, HST, k8', kl', HSN', hbq, hhq⟩
            case rest =>
              obtain ⟨j, nx, ps, ws, hjk, own9, sl9, HWS, HNX, hnx, HST, k9, kl9, SN9, B9, hh9⟩ := hcut
              have lb := k9.lt
              obtain ⟨e0, e1, e2, e3, e4, e5⟩ := k9.c6
              dsimp only at e0 e1 e2 e3 e4 e5
              clear k8 kl HSN HSC hbel
              go_wp2_with fail
              clear e0 e1 e2 e3 e4 e5 lb
              refine (latest_any (some ⟨gs, 0, none⟩) k k FS ep wc SN9.all (Nat.le_refl _) (by omega)).mono ?_
              rintro e w7 ⟨rfl, b7⟩
              replace k9 := k9.keep b7
              replace kl9 := kl9.keep b7
              replace own9 := own_below own9 b7
              replace sl9 := sl9.keep b7
              replace B9 := B9.trans (b7.mono B9.size)
              clear SN9 b7 hh9
              obtain ⟨gg, hgg⟩ : ∃ z, (latest ep FS + 1) % 18446744073709551616 = z := ⟨_, rfl⟩
              rw [hgg] at HWO
              have eg : IntKind.u64.wrap ((latest ep FS : Int) + 1) = (gg : Int) := by rw [IntKind.wrap_u64]; omega
              obtain ⟨lt, hlt⟩ : ∃ z, latest ep FS = z := ⟨_, rfl⟩
              rw [hlt] at eg
              simp only [hlt]
              clear hlt hgg
              have lb := k9.lt
              obtain ⟨e0, e1, e2, e3, e4, e5⟩ := k9.c6
              dsimp only at e0 e1 e2 e3 e4 e5
              go_wp2_with (first
                | ((with_reducible refine is_store 27 ?_); refine wp_store1 b11 3 _ _ (.int .u64 gg) k9 rfl numN.1 (by simp [Lg.cs]) rfl rfl rfl ?_; intro w8 k10 r8; go_frame; have kl10 := kl9.grown r8 (by simp; omega); obtain ⟨f0, f1, f2, f3, f4, f5⟩ := (show Blk w8 b11 44 (⟨fr, n, ep, gg, nx, fr + 1 + j⟩ : Lg).cs from k10).c6; dsimp only at f0 f1 f2 f3 f4 f5; have lb' := k10.lt)
                | ((with_reducible refine is_store 44 ?_); refine wp_storeB (w.heap.size + 1) _ _ (⟨fr, n, ep, gg, nx, fr + 1 + j⟩ : Lg).cs kl10 logN rfl (lg_one _) rfl rfl ?_; intro w9 k11 r9; go_frame))
              obtain ⟨f0, f1, f2, f3, f4, f5⟩ := k11.c6
              obtain ⟨Ar, cr, rfl, hrr, hrc, hrm⟩ := own_formN own9
              refine bodyPost_ret (v := .tuple #[(⟨fr, n, ep, gg, nx, fr + 1 + j⟩ : Lg).v, .slice Ar ps.length cr, .int .i64 0]) (by simp [results, Tryd.results15, go_sem, f0, f1, f2, f3, f4, f5]; rfl) rfl ?_
              rw [HWO.out, HFi.out, HST.out]
              refine ⟨⟨Ar, ps.length, cr⟩, ?_, ⟨by rw [recsAt_len], hrc, hrm, ws, ?_, ?_, HWS.out⟩, (B9.grown r8 B9.size (fun k hk => by cases hk; exact hwb)).grown r9 (by have := B9.size; have := r8.size; omega) (fun k hk => by cases hk; omega)⟩
              · rw [HNX.out]
                rfl
              · exact (((RN.own own9 (N := fun b => h0 ≤ b) (fun b hb => hb)).grown r8 (fun g hg hN => by cases hg; omega)).grown r9 (fun g hg hN => by cases hg; omega)).mono fun b hb => Nat.le_trans hb0 hb
              · have e : (recsAt ft ps).map (·.2) = ps := recsAt_snd ft ps
                rw [e]
                exact ((sl9.grown r8 (fun g hg hN => by cases hg; have := hN.1; omega)).grown r9 (fun g hg hN => by cases hg; have := hN.1; omega)).mono fun b hb => Nat.le_trans hb0 hb.1
      · rw [if_neg hok] at HWO
        have hbad : ep = 0 ∨ (ep ≠ 0 ∧ ft = 0) ∨ (ep ≠ 0 ∧ ft ≠ 0 ∧ s0 ≠ hdr ep ft) := by
          by_cases q1 : ep = 0
          · exact .inl q1
          · by_cases q2 : ft = 0
            · exact .inr (.inl ⟨q1, q2⟩)
            · exact .inr (.inr ⟨q1, q2, fun q3 => hok (HOK.out.2 ⟨q1, q2, q3⟩)⟩)
        clear HOK hok
        rcases hbad with p1 | ⟨p1, p2⟩ | ⟨p1, p2, p3⟩
        · have y1 : ((ep : Int) == 0) = true := by rw [p1]; rfl
          clear p1
          go_wp2_with (first
            | ((with_reducible refine is_store 44 ?_); refine wp_storeB b11 _ _ (⟨fr, n, ep, 0, ft, fr + 1⟩ : Lg).cs v11_1 logN rfl lg_one6 rfl rfl ?_; intro w8 k8 r8; go_frame; obtain ⟨e0, e1, e2, e3, e4, e5⟩ := k8.c6; have lb := k8.lt; have kl8 := kl.grown r8 (by simpa using nG.2))
            | ((with_reducible refine is_store 44 ?_); refine wp_storeB (w.heap.size + 1) _ _ Lg.zero.cs kl8 logN rfl (lg_one _) rfl rfl ?_; intro w9 k9 r9; go_frame))
          obtain ⟨f0, f1, f2, f3, f4, f5⟩ := k9.c6
          refine bodyPost_ret (v := .tuple #[Lg.zero.v, .slice none 0 0, .int .i64 29]) (by simp [results, Tryd.results15, go_sem, f0, f1, f2, f3, f4, f5]; rfl) rfl ?_
          rw [HWO.out]
          exact ⟨rfl, (B.grown r8 B.size (fun k hk => by cases hk; exact hwb)).grown r9 (by have := B.size; have := r8.size; omega) (fun k hk => by cases hk; omega)⟩
        · have y1 : ((ep : Int) == 0) = false := by rw [beq_eq_false_iff_ne]; omega
          have y2 : ((ft : Int) == 0) = true := by rw [p2]; rfl
          clear p1 p2
          go_wp2_with (first
            | ((with_reducible refine is_store 44 ?_); refine wp_storeB b11 _ _ (⟨fr, n, ep, 0, ft, fr + 1⟩ : Lg).cs v11_1 logN rfl lg_one6 rfl rfl ?_; intro w8 k8 r8; go_frame; obtain ⟨e0, e1, e2, e3, e4, e5⟩ := k8.c6; have lb := k8.lt; have kl8 := kl.grown r8 (by simpa using nG.2))
            | ((with_reducible refine is_store 44 ?_); refine wp_storeB (w.heap.size + 1) _ _ Lg.zero.cs kl8 logN rfl (lg_one _) rfl rfl ?_; intro w9 k9 r9; go_frame))
          obtain ⟨f0, f1, f2, f3, f4, f5⟩ := k9.c6
          refine bodyPost_ret (v := .tuple #[Lg.zero.v, .slice none 0 0, .int .i64 29]) (by simp [results, Tryd.results15, go_sem, f0, f1, f2, f3, f4, f5]; rfl) rfl ?_
          rw [HWO.out]
          exact ⟨rfl, (B.grown r8 B.size (fun k hk => by cases hk; exact hwb)).grown r9 (by have := B.size; have := r8.size; omega) (fun k hk => by cases hk; omega)⟩
        · have y1 : ((ep : Int) == 0) = false := by rw [beq_eq_false_iff_ne]; omega
          have y2 : ((ft : Int) == 0) = false := by rw [beq_eq_false_iff_ne]; omega
          have HP3 := hid p3
          clear p1 p2 p3
          go_wp2_with ((with_reducible refine is_store 44 ?_); refine wp_storeB b11 _ _ (⟨fr, n, ep, 0, ft, fr + 1⟩ : Lg).cs v11_1 logN rfl lg_one6 rfl rfl ?_; intro w8 k8 r8; go_frame; obtain ⟨e0, e1, e2, e3, e4, e5⟩ := k8.c6; have lb := k8.lt)
          replace kl := kl.grown r8 (by simpa using nG.2)
          replace hr : RB w8 (some ⟨g1, 0, none⟩) 128 s0 := RL.grown hr r8 (fun g hg _ b o hA he => by cases hg; cases hA; exact nr he.symm)
          have B8 := B.grown r8 B.size (fun k hk => by cases hk; exact hwb)
          clear v11_1 r8 B
          refine (header_any ep ft w8 lE lF (HTb.out.keep B8)).mono ?_
          rintro e v9 ⟨gh, rfl, hgh, kh, b9⟩
          have hrh := kh.cells (hdr_len ep ft)
          replace kl := kl.keep b9
          replace hr := hr.below b9
          have B := B8.trans (b9.mono B8.size)
          clear e0 e1 e2 e3 e4 e5 lb B8 b9 kh kd
          go_wp2_with fail
          have R := equal_any _ _ 128 128 128 128 _ _ v9 hr hrh
          rw [show (s0 == hdr ep ft) = false from beq_eq_false_iff_ne.2 HP3.out] at R
          refine R.mono ?_
          clear R
          rintro e w' ⟨rfl, rfl⟩
          go_wp2_with ((with_reducible refine is_store 44 ?_); refine wp_storeB (w.heap.size + 1) _ _ Lg.zero.cs kl logN rfl (lg_one _) rfl rfl ?_; intro w9 k9 r9; go_frame)
          obtain ⟨f0, f1, f2, f3, f4, f5⟩ := k9.c6
          refine bodyPost_ret (v := .tuple #[Lg.zero.v, .slice none 0 0, .int .i64 29]) (by simp [results, Tryd.results15, go_sem, f0, f1, f2, f3, f4, f5]; rfl) rfl ?_
          rw [HWO.out]
          exact ⟨rfl, B.grown r9 B.size (fun k hk => by cases hk; omega)⟩
end Go.Proofs.YtlokfndonjldpaaDoor

