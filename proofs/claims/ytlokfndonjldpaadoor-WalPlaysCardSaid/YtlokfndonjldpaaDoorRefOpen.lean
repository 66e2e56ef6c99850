/- The reference's Open, walked. Conditions: the bytes read. -/
import Derived.Test.YtlokfndonjldpaaDoorRefIntG
import Derived.Test.YtlokfndonjldpaaDoorRefHead
import Derived.Test.YtlokfndonjldpaaDoorStt
import Derived.Test.YtlokfndonjldpaaDoorRecR
import Derived.Deep.LoopGhost
import Derived.Deep.Cut
import Derived.Deep.CutBlock
import Derived.Deep.DeepCutAuto
set_option linter.unusedSimpArgs false
set_option linter.unusedVariables false
namespace Go.Proofs.YtlokfndonjldpaaDoor
open Go.RowKit

/-- what the reference's Open finds -/
def ropen (fs : List (List UInt8)) : Option (Stt × List (List UInt8)) :=
  if hdrOk (fs.headD []) then
    some (⟨hdrE (fs.headD []), (latest (hdrE (fs.headD [])) (fs.drop 1) + 1) % 18446744073709551616, (hdrF (fs.headD []) + (scan (fs.length - 1) (hdrE (fs.headD [])) (hdrF (fs.headD [])) 1 (fs.drop 1)).1.length) % 18446744073709551616,
      1 + (scan (fs.length - 1) (hdrE (fs.headD [])) (hdrF (fs.headD [])) 1 (fs.drop 1)).2⟩, (scan (fs.length - 1) (hdrE (fs.headD [])) (hdrF (fs.headD [])) 1 (fs.drop 1)).1)
  else none
def ropenE : Option (Stt × List (List UInt8)) → Nat → Ending → World → World → Prop
  | none, _, e, w, w' => e = .returned (.tuple #[Stt.zero.v, .slice none 0 0, .bool false]) ∧ Below w.heap.size w w'
  | some (s, ps), f, e, w, w' => ∃ sl : Sl, e = .returned (.tuple #[s.v, sl.v, .bool true]) ∧ RecR (fun b => w.heap.size ≤ b) w' sl (recsAt f ps) ∧ Below w.heap.size w w'
theorem rrecT : ElT Tryd.prog 50 105 (.agg #[.int .u64 0, .slice none 0 0]) 2 32 :=
  ⟨Tryd.underlying50, info_parts (by kernel_rfl : (Tryd.prog.info? 105).map (fun i => (i.zero, i.size, i.bytes)) = some (some (.agg #[.int .u64 0, .slice none 0 0]), 2, 32)), rfl, by omega⟩

/-- behind i halves of sectors -/
def lateI (e : Nat) (fs : List (List UInt8)) (i : Nat) : Nat := (List.range i).foldl (fun m i => later e m ((fs[i / 2]?.getD []).drop (64 * (i % 2)))) 0
theorem lateI_succ (e : Nat) (fs : List (List UInt8)) (i : Nat) : lateI e fs (i + 1) = later e (lateI e fs i) ((fs[i / 2]?.getD []).drop (64 * (i % 2))) := by
  unfold lateI
  rw [List.range_succ, List.foldl_append]
  rfl
theorem lateI_two (e : Nat) (fs : List (List UInt8)) : ∀ k, k ≤ fs.length → lateI e fs (2 * k) = late e fs k
  | 0, _ => rfl
  | k + 1, h => by
    have hs : fs[k]? = some fs[k] := List.getElem?_eq_getElem (show k < fs.length by omega)
    rw [show 2 * (k + 1) = 2 * k + 1 + 1 by omega, lateI_succ, lateI_succ, lateI_two e fs k (by omega), show (2 * k + 1) / 2 = k by omega, show (2 * k) / 2 = k by omega, show (2 * k + 1) % 2 = 1 by omega, show (2 * k) % 2 = 0 by omega, hs, late_succ e hs]
    rfl
theorem lateI_lt (e : Nat) (fs : List (List UInt8)) : ∀ i, lateI e fs i < 18446744073709551616
  | 0 => by unfold lateI; simp
  | i + 1 => by rw [lateI_succ]; exact later_lt _ _ _ (lateI_lt e fs i)

set_option maxRecDepth 100000 in
set_option maxHeartbeats 4000000 in
theorem refOpen_any (A : Option Addr) (c : Nat) (s0 : List UInt8) (rs : List (List UInt8)) (w : World) (hr : RB w A (128 * (s0 :: rs).length) (s0 :: rs).flatten) (h128 : ∀ s ∈ s0 :: rs, s.length = 128) (hn : (s0 :: rs).length ≤ 1000) (hnc : 128 * (s0 :: rs).length ≤ c) (hcm : c ≤ 9223372036854775807) :
    Calls Tryd.prog 16 #[.slice A (128 * (s0 :: rs).length) c] w fun e w' => ropenE (ropen (s0 :: rs)) (hdrF s0) e w w' := by
  have hs0 : s0.length = 128 := h128 s0 (List.mem_cons_self ..)
  have hpre : RB w A 128 s0 := by
    have := hr.pre (k := 128) (by rw [List.length_cons]; omega)
    rwa [List.flatten_cons, List.take_left' hs0] at this
  have HHd := hid (fun w' (hb : Below w.heap.size w w') => refHead_any A c s0 w' (hpre.below hb))
  have HIn := hid (fun (j : Nat) w' (hb : Below w.heap.size w w') (hj : j ≤ 1000) => refIntact_any A c (s0 :: rs) (1 + j) w' (hr.below hb) h128 hn (by omega) hnc hcm)
  have HDr : Hid (∀ j, (s0 :: rs).drop (1 + j) = rs.drop j) := hid fun j => by rw [Nat.add_comm, List.drop_succ_cons]
  have HWO : Hid (ropen (s0 :: rs) = if hdrOk s0 then some (⟨hdrE s0, (latest (hdrE s0) rs + 1) % 18446744073709551616, (hdrF s0 + (scan rs.length (hdrE s0) (hdrF s0) 1 rs).1.length) % 18446744073709551616, 1 + (scan rs.length (hdrE s0) (hdrF s0) 1 rs).2⟩, (scan rs.length (hdrE s0) (hdrF s0) 1 rs).1) else none) := hid rfl
  have HGt := hid (fun (at_ k : Nat) w' (hb : Below w.heap.size w w') (h1 : at_ + k ≤ 128 * (s0 :: rs).length) (hk : k ≤ 8) => get_any A (128 * (s0 :: rs).length) c (s0 :: rs).flatten at_ k w' (hr.below hb) h1 hk (by omega))
  have HFi := hid (fun (k o l : Nat) (s : List UInt8) (hs : rs[k]? = some s) (hol : o + l ≤ 128) => flat_in h128 (j := k + 1) (s := s) (by simpa using hs) o l hol)
  have lE : hdrE s0 < 18446744073709551616 := by
    unfold hdrE
    have := num_lt ((s0.drop 4).take 8)
    rw [show ((s0.drop 4).take 8).length = 8 by simp [hs0]] at this
    exact this
  have lF : hdrF s0 < 18446744073709551616 := by
    unfold hdrF
    have := num_lt ((s0.drop 12).take 8)
    rw [show ((s0.drop 12).take 8).length = 8 by simp [hs0]] at this
    exact this
  have HN : Hid ((s0 :: rs).length = rs.length + 1) := hid rfl
  clear hpre hr h128 hs0
  obtain ⟨n, hN⟩ : ∃ z, (s0 :: rs).length = z := ⟨_, rfl⟩
  rw [hN] at HIn HGt HN hn hnc ⊢
  clear hN
  have hn1 : n = rs.length + 1 := HN.out
  have t1 : ¬ (128 * (n : Int)) < 128 := by omega
  generalize (s0 :: rs).flatten = all at *
  obtain ⟨ok, hok⟩ : ∃ z, decide (hdrOk s0) = z := ⟨_, rfl⟩
  rw [hok] at HHd
  generalize hdrE s0 = ep at *
  generalize hdrF s0 = ft at *
  have nc1 : 128 ≤ c := by omega
  clear hn1
  go_enter Tryd.func16, Tryd.ntmps16
  go_wp2_with ((with_reducible refine is_alloc 49 ?_); refine wp_allocB (w := w) _ arrSt ?_; intro w1 k1 b1 s1; go_frame)
  refine (HHd.out w1 b1).mono ?_
  rintro e w2 ⟨rfl, b2⟩
  have B := b1.trans (b2.mono b1.size)
  have kl := k1.keep b2
  clear k1 b1 b2 s1 HHd
  cases ok with
  | false =>
    rw [if_neg (of_decide_eq_false hok)] at HWO
    clear hok
    go_wp2_with ((with_reducible refine is_store 49 ?_); refine wp_storeB w.heap.size _ _ Stt.zero.cs kl stN rfl (st_one _) rfl rfl ?_; intro w9 k9 r9; go_frame)
    obtain ⟨f0, f1, f2, f3⟩ := k9.c4
    refine bodyPost_ret (v := .tuple #[Stt.zero.v, .slice none 0 0, .bool false]) (by simp [results, Tryd.results16, go_sem, f0, f1, f2, f3]; rfl) rfl ?_
    rw [HWO.out]
    exact ⟨rfl, B.grown r9 B.size (fun k hk => by cases hk; exact Nat.le_refl _)⟩
  | true =>
    rw [if_pos (of_decide_eq_true hok)] at HWO
    clear hok
    have hg2 := kl.lt
    go_upto_block 0 with (first
      | ((with_reducible refine is_alloc 49 ?_); refine wp_allocB (w := w2) _ arrSt ?_; intro w3 k3 b3 s3; go_frame)
      | ((with_reducible refine is_store 49 ?_); refine wp_storeB w2.heap.size _ _ (⟨ep, 0, ft, 1⟩ : Stt).cs k3 stN rfl (st_one _) rfl rfl ?_; intro w4 k4 r4; go_frame))
    have kl4 := (kl.keep b3).grown r4 (by simp; omega)
    have B3 := B.trans (b3.mono B.size)
    have B4 := B3.grown r4 B3.size (fun k hk => by cases hk; exact B.size)
    have hgb : w.heap.size < w2.heap.size := hg2
    have hg4 := k4.lt
    clear kl k3 b3 s3 r4 B3 B hg2
    generalize w2.heap.size = g8 at *
    have HSC : Scn rs.length ep ft rs 0 ft 1 [] := Scn.start (Nat.le_refl _) lF
    have hrn : rs.length < 1000 := by have := HN.out; omega
    obtain ⟨m, hm⟩ : ∃ z, rs.length = z := ⟨_, rfl⟩
    have HM := hid hm
    rw [hm] at HWO HSC hrn HN
    clear hm
    obtain ⟨h0, hh0⟩ : ∃ z, z = w4.heap.size := ⟨_, rfl⟩
    have hb0 : g8 < h0 := by omega
    go_cut [9] (fun v wx => ∃ (j nx : Nat) (ps : List (List UInt8)) (ws : List (Nat × Sl)), j ≤ m ∧ wx.ownsRow h0 105 2 v ps.length (ws.flatMap recCs) ∧ Sls (fun b => h0 ≤ b ∧ v.ownBlock ≠ some b) wx (ws.map (·.2)) ps ∧ Hid (ws.map (·.1) = (recsAt ft ps).map (·.1)) ∧ Hid (nx = (ft + ps.length) % 18446744073709551616) ∧ nx < 18446744073709551616 ∧ Hid (scan m ep ft 1 rs = (ps, j)) ∧
      Blk wx g8 49 (⟨ep, 0, nx, 1 + j⟩ : Stt).cs ∧ Blk wx w.heap.size 49 Stt.zero.cs ∧ Below w.heap.size w wx ∧ h0 ≤ wx.heap.size)
    case first =>
      go_wp2_with fail
      go_loopg [9, 10] m (fun gh v l wq => ∃ (j nx g : Nat) (ps : List (List UInt8)) (ws : List (Nat × Sl)), gh + j = m ∧ l = .int .u64 g ∧ wq.ownsRow h0 105 2 v ps.length (ws.flatMap recCs) ∧ Sls (fun b => h0 ≤ b ∧ v.ownBlock ≠ some b) wq (ws.map (·.2)) ps ∧ Hid (ws.map (·.1) = (recsAt ft ps).map (·.1)) ∧ Scn m ep ft rs j nx g ps ∧
        Blk wq g8 49 (⟨ep, 0, nx, 1 + j⟩ : Stt).cs ∧ Blk wq w.heap.size 49 Stt.zero.cs ∧ Below w.heap.size w wq ∧ h0 ≤ wq.heap.size)
      case atStart => exact ⟨0, ft, 1, [], [], by omega, rfl, World.ownsRow_nil _ _ _ _, Sls.nil, hid rfl, HSC, k4, kl4, B4, by omega⟩
      case round =>
        obtain ⟨j, nx, g, ps, ws, hj, rfl, hown, hsl', HWS, HSC', k8', kl', hbq, hhq⟩ := hrel
        clear k4 kl4 HSC B4
        have hnx : nx < 18446744073709551616 := by rw [HSC'.hn]; exact Nat.mod_lt _ (by omega)
        have lb := k8'.lt
        obtain ⟨e0, e1, e2, e3⟩ := k8'.c4
        dsimp only at e0 e1 e2 e3
        have R := HIn.out j wr hbq (by omega)
        rw [HDr.out] at R
        have s4 : g8 < wr.heap.size := by omega
        have ej := IntWalk.i64_in ((1 + (j : Int)) * 128) (by omega)
        have eA : (((1 + j : Nat) : Int) * 128) = (1 + (j : Int)) * 128 := by omega
        rw [eA] at R
        go_wp2_with fail
        refine R.mono ?_
        clear R
        rintro e w5 ⟨E, rfl, b5, hE⟩
        clear e0 e1 e2 e3 lb ej eA
        have b5s := b5.size
        have hEone := en_one E
        have hjm := HM.out
        unfold En.cs at hEone
        unfold En.v
        obtain ⟨ee, eg, el, ⟨pA, pn, pc⟩, ek⟩ := E
        unfold Sl.v at hEone ⊢
        dsimp only at hEone hE ⊢
        cases hi : intactP (rs.drop j) with
        | none =>
          have HST : Hid (scan m ep ft 1 rs = (ps, j)) := by
            by_cases hjl : j < rs.length
            · exact hid (HSC'.stop hjl (by rw [hi]; intro t p k' h; cases h))
            · exact hid (HSC'.done (by omega))
          simp only [hi, Option.isSome_none]
          clear hi hE
          go_wp2_with (first
            | ((with_reducible refine is_alloc 102 ?_); refine wp_allocB (w := w5) _ arrEn ?_; intro w6 k6 b6 s6; go_frame)
            | ((with_reducible refine is_store 102 ?_); refine wp_storeB w5.heap.size _ _ [.int .u64 ee, .int .u64 eg, .int .u64 el, .slice pA pn pc, .int .i64 ek] k6 enN rfl hEone rfl rfl ?_; intro w7 k7 r7; go_frame))
          have k9 := ((k8'.keep b5).keep b6).grown r7 (by have := k8'.lt; simp; omega)
          have kl9 := ((kl'.keep b5).keep b6).grown r7 (by have := kl'.lt; simp; omega)
          have own9 := (own_below (own_below hown b5) b6).kept r7 (.inr (fun hq => by have := (hown.lt _ hq).2; omega))
          have sl9 := (((hsl'.lt.keep b5).keep b6).grown r7 (fun g hg hN => by cases hg; have := hN.2; omega)).mono (N' := fun b => h0 ≤ b ∧ u9.ownBlock ≠ some b) (fun b hb => hb.1)
          have C5 := hbq.trans (b5.mono hbq.size)
          have C6 := C5.trans (b6.mono C5.size)
          have B9 := C6.grown r7 C6.size (fun k hk => by cases hk; exact C5.size)
          have hh9 : h0 ≤ w7.heap.size := by have := b6.size; have := r7.size; omega
          clear k8' kl' hown hsl' hbq hhq b5 b6 r7 k6 s6 C5 C6
          go_meet
          case rel => exact ⟨j, nx, ps, ws, by omega, own9, sl9, HWS, hid HSC'.hn, hnx, HST, k9, kl9, B9, hh9⟩
        | some x =>
          obtain ⟨t, p, q⟩ := x
          obtain ⟨E1, E2, E3, E4, hsp⟩ := hE t p q hi
          replace E4 := E4.symm
          subst E1 E2 E3 E4
          have hjl : j < rs.length := by
            by_cases h : j < rs.length
            · exact h
            · rw [List.drop_eq_nil_of_le (by omega), intactP_nil] at hi
              cases hi
          obtain ⟨q1, q2, q3⟩ := intactP_pos hi
          rw [List.length_drop] at q2
          have HII := hid hi
          simp only [hi, Option.isSome_some]
          clear hi hE
          by_cases hy : tE t = ep ∧ tL t = nx ∧ g ≤ tG t
          · have HSN2 := hid (HSC'.next HII.out hy)
            have hpl := HSC'.l
            have y1 : ((tE t : Int) != (ep : Int)) = false := by rw [bne_eq_false_iff_eq]; omega
            have y2 : ((tL t : Int) != (nx : Int)) = false := by rw [bne_eq_false_iff_eq]; omega
            have y3 : ¬ (tG t : Int) < (g : Int) := by omega
            have HWS2 : Hid ((ws ++ [(tL t, (⟨pA, pn, pc⟩ : Sl))]).map (·.1) = (recsAt ft (ps ++ [p])).map (·.1)) := by
              show _ = _
              rw [recsAt_snoc _ _ _ lF, List.map_append, List.map_append, HWS.out, hy.2.1, HSC'.hn]
              rfl
            obtain ⟨nx2, hnx2⟩ : ∃ z, (nx + 1) % 18446744073709551616 = z := ⟨_, rfl⟩
            rw [hnx2] at HSN2
            have egg : IntKind.u64.wrap ((nx : Int) + 1) = (nx2 : Int) := by rw [IntKind.wrap_u64]; omega
            clear HII hy hnx2
            generalize tE t = t1' at *
            generalize tG t = t2' at *
            generalize tL t = t3' at *
            go_wp2_with (first
              | ((with_reducible refine is_alloc 102 ?_); refine wp_allocB (w := w5) _ arrEn ?_; intro w6 k6 b6 s6; go_frame)
              | ((with_reducible refine is_store 102 ?_); refine wp_storeB w5.heap.size _ _ [.int .u64 t1', .int .u64 t2', .int .u64 t3', .slice pA pn pc, .int .i64 q] k6 enN rfl hEone rfl rfl ?_; intro w7 k7 r7; go_frame; have k9 := ((k8'.keep b5).keep b6).grown r7 (by have := k8'.lt; simp; omega); obtain ⟨e0, e1, e2, e3⟩ := k9.c4; dsimp only at e0 e1 e2 e3; have lb := k9.lt; obtain ⟨z0, z1, z2, z3, z4⟩ := k7.c5; have lz := k7.lt; have own9 := (own_below (own_below hown b5) b6).kept r7 (.inr (fun hq => by have := (hown.lt _ hq).2; omega)); have hh9 : h0 ≤ w7.heap.size := by (have := b6.size; have := r7.size; omega))
              | (at_builtin; refine wp_appN rfl _ _ 50 rfl h0 105 _ 2 32 rrecT u9 ps.length (ws.flatMap recCs) (own9.alloc _) rfl _ 1 1 [.int .u64 t3', .slice pA pn pc] (RL.new w7 _ _ _ 2 1 rfl) rfl (rec_one [(t3', ⟨pA, pn, pc⟩)]) (by unfold maxLen; omega) (by omega) (by simp; omega) ?_; intro v8 w8 hown8 r8 a8; go_frame; have k10 := (k9.keep ((Below.refl _ _).alloc (Nat.le_refl _) (.cells #[.int .u64 t3', .slice pA pn pc] 105))).grown r8 (fun hq => by have := (hown.lt _ hq).1; omega); have k17 := (k7.keep ((Below.refl _ _).alloc (Nat.le_refl _) (.cells #[.int .u64 t3', .slice pA pn pc] 105))).grown r8 (fun hq => by have := (hown.lt _ hq).2; omega); clear z0 z1 z2 z3 z4 e0 e1 e2 e3 lb lz; obtain ⟨e0, e1, e2, e3⟩ := k10.c4; dsimp only at e0 e1 e2 e3; have lb := k10.lt; obtain ⟨z0, z1, z2, z3, z4⟩ := k17.c5; have lz := k17.lt)
              | ((with_reducible refine is_store 27 ?_); refine wp_store1 g8 2 _ _ (.int .u64 nx2) k10 rfl numN.1 (by simp [Stt.cs]) rfl rfl rfl ?_; intro w9 k11 r9; go_frame; have k17' := k17.grown r9 (by simp; omega); clear z0 z1 z2 z3 z4 e0 e1 e2 e3 lb lz; have k11' : Blk w9 g8 49 (⟨ep, 0, nx2, 1 + j⟩ : Stt).cs := k11; obtain ⟨e0, e1, e2, e3⟩ := k11'.c4; dsimp only at e0 e1 e2 e3; have lb := k11'.lt; obtain ⟨z0, z1, z2, z3, z4⟩ := k17'.c5; have lz := k17'.lt)
              | ((with_reducible refine is_store 3 ?_); refine wp_store1 g8 3 _ _ (.int .i64 (1 + (j : Int) + (q : Int))) k11' rfl numN.2 (by simp [Stt.cs]) rfl rfl rfl ?_; intro w10 k12 r10; go_frame))
            have ba : Below w7.heap.size w7 (w7.alloc (.cells #[.int .u64 t3', .slice pA pn pc] 105)) := (Below.refl _ _).alloc (Nat.le_refl _) _
            have k12' : Blk w10 g8 49 (⟨ep, 0, nx2, 1 + (j + q)⟩ : Stt).cs := by
              have := k12
              simp only [Stt.cs, List.set_cons_succ, List.set_cons_zero] at this ⊢
              rw [show ((1 + (j + q) : Nat) : Int) = 1 + (j : Int) + (q : Int) by omega]
              exact this
            have no8 : ∀ g, u9.ownBlock = some g → h0 ≤ g ∧ g < wr.heap.size := fun g hg => hown.lt g hg
            have kl9 := (((((kl'.keep b5).keep b6).grown r7 (by have := kl'.lt; simp; omega)).keep ba).grown r8 (fun hq => by have := (no8 _ hq).1; omega)).grown r9 (by simp; omega) |>.grown r10 (by simp; omega)
            have own12 := (hown8.kept r9 (.inr (fun hq => by have := (hown8.lt _ hq).1; omega))).kept r10 (.inr (fun hq => by have := (hown8.lt _ hq).1; omega))
            have sa : Sls (fun b => h0 ≤ b ∧ u9.ownBlock ≠ some b) (w7.alloc (.cells #[.int .u64 t3', .slice pA pn pc] 105)) (ws.map (·.2)) ps := ((((hsl'.lt.keep b5).keep b6).grown r7 (fun g hg hN => by cases hg; have := hN.2; omega)).mono (fun b hb => hb.1)).keep ba
            have sb : SlR (fun b => h0 ≤ b ∧ u9.ownBlock ≠ some b) (w7.alloc (.cells #[.int .u64 t3', .slice pA pn pc] 105)) ⟨pA, pn, pc⟩ p := (((hsp.lt.keep b6).grown r7 (fun g hg hN => by cases hg; have := hN.2; omega)).mono (fun b hb => ⟨by have := hb.1; omega, fun hq => by have := (no8 _ hq).2; have := hb.1; omega⟩)).keep ba
            have sc := ((Sls.app (N := fun b => h0 ≤ b) sa sb r8 a8).grown r9 (fun g hg hN => by cases hg; have := hN.1; omega)).grown r10 (fun g hg hN => by cases hg; have := hN.1; omega)
            have C5 := hbq.trans (b5.mono hbq.size)
            have C6 := C5.trans (b6.mono C5.size)
            have C7 := C6.grown r7 C6.size (fun k hk => by cases hk; exact C5.size)
            have C8 := (C7.trans (ba.mono C7.size)).grown r8 (C7.trans (ba.mono C7.size)).size (fun g hg => by have := (no8 _ hg).1; omega)
            have C9 := C8.grown r9 C8.size (fun k hk => by cases hk; omega)
            have B9 := C9.grown r10 C9.size (fun k hk => by cases hk; omega)
            have hh12 : h0 ≤ w10.heap.size := by have := ba.size; have := r8.size; have := r9.size; have := r10.size; omega
            (try clear z0 z1 z2 z3 z4 lz)
            (try clear e0 e1 e2 e3 lb)
            clear k8' kl' hown hsl' hsp hbq hhq b5 b6 k6 s6 k7 r7 k9 own9 hh9 hown8 r8 a8 k10 k17 k11 k11' k17' r9 k12 r10 ba sa sb C5 C6 C7 C8 C9 no8
            go_roundg (m - (j + q))
            case measure => omega
            case rel =>
              refine ⟨j + q, nx2, t2', ps ++ [p], ws ++ [(t3', ⟨pA, pn, pc⟩)], by omega, rfl, ?_, ?_, HWS2, HSN2.out, k12', kl9, B9, hh12⟩
              · rw [List.length_append, List.flatMap_append]
                exact own12
              · rw [List.map_append]
                exact sc
          · have HST : Hid (scan m ep ft 1 rs = (ps, j)) := hid (HSC'.stop hjl (by rw [HII.out]; intro t' p' k' h; cases h; exact hy))
            have hyy : ((tE t : Int) != (ep : Int)) = true ∨ (((tE t : Int) != (ep : Int)) = false ∧ ((tL t : Int) != (nx : Int)) = true) ∨ (((tE t : Int) != (ep : Int)) = false ∧ ((tL t : Int) != (nx : Int)) = false ∧ (tG t : Int) < (g : Int)) := by
              simp only [bne_iff_ne, bne_eq_false_iff_eq]
              omega
            clear HII hy
            generalize tE t = t1' at *
            generalize tG t = t2' at *
            generalize tL t = t3' at *
            rcases hyy with y1 | ⟨y1, y2⟩ | ⟨y1, y2, y3⟩
            all_goals (
              go_wp2_with (first
                | ((with_reducible refine is_alloc 102 ?_); refine wp_allocB (w := w5) _ arrEn ?_; intro w6 k6 b6 s6; go_frame)
                | ((with_reducible refine is_store 102 ?_); refine wp_storeB w5.heap.size _ _ [.int .u64 t1', .int .u64 t2', .int .u64 t3', .slice pA pn pc, .int .i64 q] k6 enN rfl hEone rfl rfl ?_; intro w7 k7 r7; go_frame; have k9 := ((k8'.keep b5).keep b6).grown r7 (by have := k8'.lt; simp; omega); obtain ⟨e0, e1, e2, e3⟩ := k9.c4; dsimp only at e0 e1 e2 e3; have lb := k9.lt; obtain ⟨z0, z1, z2, z3, z4⟩ := k7.c5; have lz := k7.lt))
              (try clear z0 z1 z2 z3 z4 lz)
              (try clear e0 e1 e2 e3 lb)
              have k9 := ((k8'.keep b5).keep b6).grown r7 (by have := k8'.lt; simp; omega)
              have kl9 := ((kl'.keep b5).keep b6).grown r7 (by have := kl'.lt; simp; omega)
              have own9 := (own_below (own_below hown b5) b6).kept r7 (.inr (fun hq => by have := (hown.lt _ hq).2; omega))
              have sl9 := (((hsl'.lt.keep b5).keep b6).grown r7 (fun g hg hN => by cases hg; have := hN.2; omega)).mono (N' := fun b => h0 ≤ b ∧ u9.ownBlock ≠ some b) (fun b hb => hb.1)
              have C5 := hbq.trans (b5.mono hbq.size)
              have C6 := C5.trans (b6.mono C5.size)
              have B9 := C6.grown r7 C6.size (fun k hk => by cases hk; exact C5.size)
              have hh9 : h0 ≤ w7.heap.size := by have := b6.size; have := r7.size; omega
              clear k8' kl' hown hsl' hbq hhq b5 b6 r7 k6 s6 C5 C6
              go_meet
              case rel => exact ⟨j, nx, ps, ws, by omega, own9, sl9, HWS, hid HSC'.hn, hnx, HST, k9, kl9, B9, hh9⟩
              )
    case rest =>
      obtain ⟨j, nx, ps, ws, hj, own9, sl9, HWS, HNX, hnx, HST, k9, kl9, B9, hh9⟩ := hcut
      obtain ⟨Ar, cr, rfl, hrr, hrc, hrm⟩ := own_formN own9
      have own8 := RN.own own9 (N := fun b => h0 ≤ b) (fun b hb => hb)
      have sl8 := sl9.mono (fun b hb => hb.1)
      clear own9 sl9 hrr
      clear k4 kl4 B4 HSC hh0 HIn HDr lF nc1 hg4 hh9
      have HH : Hid (∀ i, i < 2 * m → num ((all.drop (128 + 64 * i)).take 8) = tE ((rs[i / 2]?.getD []).drop (64 * (i % 2))) ∧ num ((all.drop (128 + 64 * i + 8)).take 8) = tG ((rs[i / 2]?.getD []).drop (64 * (i % 2)))) := hid fun i hi => by
        have hm := HM.out
        have hs : rs[i / 2]? = some rs[i / 2] := List.getElem?_eq_getElem (by omega)
        have a1 := HFi.out (i / 2) (64 * (i % 2)) 8 _ hs (by omega)
        have a2 := HFi.out (i / 2) (64 * (i % 2) + 8) 8 _ hs (by omega)
        rw [show 128 * (i / 2 + 1) + 64 * (i % 2) = 128 + 64 * i by omega] at a1
        rw [show 128 * (i / 2 + 1) + (64 * (i % 2) + 8) = 128 + 64 * i + 8 by omega] at a2
        rw [a1, a2, hs, ← List.drop_drop]
        exact ⟨rfl, rfl⟩
      have HL : Hid (∀ i, lateI ep rs (i + 1) = if tE ((rs[i / 2]?.getD []).drop (64 * (i % 2))) = ep then max (lateI ep rs i) (tG ((rs[i / 2]?.getD []).drop (64 * (i % 2)))) else lateI ep rs i) := hid fun i => by rw [lateI_succ]; rfl
      have HZ : Hid (lateI ep rs (2 * m) = latest ep rs) := hid (by rw [← HM.out, lateI_two ep rs _ (Nat.le_refl _), late_all])
      have HLt := hid (lateI_lt ep rs)
      have hL0 : lateI ep rs 0 = 0 := rfl
      rw [← hL0] at k9
      clear hL0
      clear HFi
      go_wp2_with fail
      go_loopw [13] (fun v wq => ∃ i : Nat, i ≤ 2 * m ∧ v = .int .i64 (128 + 64 * (i : Int)) ∧ Blk wq g8 49 (⟨ep, lateI ep rs i, nx, 1 + j⟩ : Stt).cs ∧ Blk wq w.heap.size 49 Stt.zero.cs ∧ Below w.heap.size w wq ∧ RN (fun b => h0 ≤ b) wq 2 Ar ps.length (ws.flatMap recCs) ∧ Sls (fun b => h0 ≤ b) wq (ws.map (·.2)) ps) (fun v _ => (128 * (m : Int) + 192 - intOf v).toNat)
      case atStart => exact ⟨0, Nat.zero_le _, rfl, k9, kl9, B9, own8, sl8⟩
      case round =>
        obtain ⟨i, hi, rfl, k9', kl9', B9', own9, sl9⟩ := hrel
        clear k9 kl9 own8 sl8
        by_cases hlt : i < 2 * m
        · have hn' := HN.out
          have t2 : 128 + 64 * (i : Int) + 64 ≤ 128 * (n : Int) := by omega
          have t3 : ¬ 128 * (n : Int) < 128 + 64 * (i : Int) + 64 := by omega
          have R := HGt.out (128 + 64 * i + 8) 8 wr B9' (by omega) (by omega)
          have R2 := HGt.out (128 + 64 * i) 8 wr B9' (by omega) (by omega)
          obtain ⟨h1, h2⟩ := HH.out i hlt
          have HLs := hid (HL.out i)
          have hl1 := HLt.out i
          have hl2 := HLt.out (i + 1)
          rw [h1] at R2
          rw [h2] at R
          rw [show ((128 + 64 * i + 8 : Nat) : Int) = 128 + 64 * (i : Int) + 8 by omega] at R
          rw [show ((128 + 64 * i : Nat) : Int) = 128 + 64 * (i : Int) by omega] at R2
          clear h1 h2
          generalize tE ((rs[i / 2]?.getD []).drop (64 * (i % 2))) = a1 at *
          generalize tG ((rs[i / 2]?.getD []).drop (64 * (i % 2))) = a2 at *
          generalize lateI ep rs i = l1 at *
          obtain ⟨l2, hl2'⟩ : ∃ z, lateI ep rs (i + 1) = z := ⟨_, rfl⟩
          rw [hl2'] at hl2 HLs
          have HL2 := hid hl2'
          clear hl2' hn'
          go_wp2_with fail
          refine R.mono ?_
          clear R
          rintro e w5 ⟨rfl, rfl⟩
          obtain ⟨f0, f1, f2, f3⟩ := k9'.c4
          dsimp only at f0 f1 f2 f3
          have lb := k9'.lt
          by_cases hae : a1 = ep
          · have y1 : ((a1 : Int) == (ep : Int)) = true := by rw [beq_iff_eq]; omega
            rw [if_pos hae] at HLs
            clear hae
            by_cases hgt : l1 < a2
            · have y2 : (l1 : Int) < (a2 : Int) := by omega
              have HE : Hid (l2 = a2) := hid (by rw [HLs.out]; omega)
              go_wp2_with fail
              refine R2.mono ?_
              clear R2
              rintro e w5 ⟨rfl, rfl⟩
              go_wp2_with ((with_reducible refine is_store 27 ?_); refine wp_store1 g8 1 _ _ (.int .u64 a2) k9' rfl numN.1 (by simp [Stt.cs]) rfl rfl rfl ?_; intro w8 k8 r8; go_frame)
              have B8 := B9'.grown r8 B9'.size (fun k hk => by cases hk; omega)
              have kl8 := kl9'.grown r8 (by simp; omega)
              have own8 := own9.grown r8 (fun g hg hN => by cases hg; omega)
              have sl8 := sl9.grown r8 (fun g hg hN => by cases hg; omega)
              clear f0 f1 f2 f3 lb r8 own9 sl9
              go_roundw
              case rel => exact ⟨i + 1, by omega, by go_num, by rw [HL2.out, HE.out]; exact k8, kl8, B8, own8, sl8⟩
              case measure => simp [intOf]; omega
            · have y2 : ¬ (l1 : Int) < (a2 : Int) := by omega
              have HE : Hid (l2 = l1) := hid (by rw [HLs.out]; omega)
              go_wp2_with fail
              refine R2.mono ?_
              clear R2
              rintro e w5 ⟨rfl, rfl⟩
              go_wp2_with fail
              go_roundw
              case rel => exact ⟨i + 1, by omega, by go_num, by rw [HL2.out, HE.out]; exact k9', kl9', B9', own9, sl9⟩
              case measure => simp [intOf]; omega
          · have y1 : ((a1 : Int) == (ep : Int)) = false := by rw [beq_eq_false_iff_ne]; omega
            rw [if_neg hae] at HLs
            clear hae
            go_wp2_with fail
            refine R2.mono ?_
            clear R2
            rintro e w5 ⟨rfl, rfl⟩
            go_wp2_with fail
            go_roundw
            case rel => exact ⟨i + 1, by omega, by go_num, by rw [HL2.out, HLs.out]; exact k9', kl9', B9', own9, sl9⟩
            case measure => simp [intOf]; omega
        · obtain rfl : i = 2 * m := by omega
          have hn' := HN.out
          have t2 : ¬ 128 + 64 * (2 * (m : Int)) + 64 ≤ 128 * (n : Int) := by omega
          have t3 : 128 * (n : Int) < 128 + 64 * (2 * (m : Int)) + 64 := by omega
          rw [HZ.out] at k9'
          have hlz := HLt.out (2 * m)
          rw [HZ.out] at hlz
          clear hn' HL HH HZ HLt
          obtain ⟨gg, hgg⟩ : ∃ z, (latest ep rs + 1) % 18446744073709551616 = z := ⟨_, rfl⟩
          rw [hgg] at HWO
          have eg : IntKind.u64.wrap ((latest ep rs : Int) + 1) = (gg : Int) := by rw [IntKind.wrap_u64]; omega
          obtain ⟨lt, hlt⟩ : ∃ z, latest ep rs = z := ⟨_, rfl⟩
          rw [hlt] at eg k9' hlz
          clear hlt hgg
          obtain ⟨f0, f1, f2, f3⟩ := k9'.c4
          dsimp only at f0 f1 f2 f3
          have lb := k9'.lt
          have lb0 := kl9'.lt
          go_wp2_with (first
            | ((with_reducible refine is_store 27 ?_); refine wp_store1 g8 1 _ _ (.int .u64 gg) k9' rfl numN.1 (by simp [Stt.cs]) rfl rfl rfl ?_; intro w8 k8 r8; go_frame; have kl8 := kl9'.grown r8 (by simp; omega); obtain ⟨q0, q1, q2, q3⟩ := (show Blk w8 g8 49 (⟨ep, gg, nx, 1 + j⟩ : Stt).cs from k8).c4; dsimp only at q0 q1 q2 q3; have lb' := k8.lt)
            | ((with_reducible refine is_store 49 ?_); refine wp_storeB w.heap.size _ _ (⟨ep, gg, nx, 1 + j⟩ : Stt).cs kl8 stN rfl (st_one _) rfl rfl ?_; intro w9 k9 r9; go_frame))
          obtain ⟨z0, z1, z2, z3⟩ := k9.c4
          refine bodyPost_ret (v := .tuple #[(⟨ep, gg, nx, 1 + j⟩ : Stt).v, .slice Ar ps.length cr, .bool true]) (by simp [results, Tryd.results16, go_sem, z0, z1, z2, z3]; rfl) rfl ?_
          rw [HWO.out, HST.out]
          refine ⟨⟨Ar, ps.length, cr⟩, ?_, ⟨by rw [recsAt_len], hrc, hrm, ws, ?_, ?_, HWS.out⟩, (B9'.grown r8 B9'.size (fun k hk => by cases hk; omega)).grown r9 (by have := B9'.size; have := r8.size; omega) (fun k hk => by cases hk; omega)⟩
          · rw [HNX.out]
            rfl
          · exact ((own9.grown r8 (fun g hg hN => by cases hg; omega)).grown r9 (fun g hg hN => by cases hg; omega)).mono fun b hb => by omega
          · have e : (recsAt ft ps).map (·.2) = ps := recsAt_snd ft ps
            rw [e]
            exact ((sl9.grown r8 (fun g hg hN => by cases hg; omega)).grown r9 (fun g hg hN => by cases hg; omega)).mono fun b hb => by omega
end Go.Proofs.YtlokfndonjldpaaDoor

