/- begin of layer 13's laws, walked. Conditions: the numbers fit; the table of remainders is laid. What the pager's calls do to a store that agrees with the reference. Conditions: the table of remainders is laid; those of each theorem. The example of layer 13's laws, walked. Conditions: the table of remainders is laid. Parts of the walks of layer 13's laws: lists of acts as parameters, loads from a store of the laws. Conditions: those of each theorem. -/
import Derived.Test.YtanglofabkbllaaDoorDo
import Derived.Test.YtanglofabkbllaaDoorHead
import Derived.Test.YtanglofabkbllaaDoorUsed
import Derived.Test.YtanglofabkbllaaDoorIs
import Derived.Test.YtanglofabkbllaaDoorEnd
import Derived.Lib.SmallJoins
set_option linter.unusedSimpArgs false
set_option linter.unusedVariables false
namespace Go.Proofs.YtanglofabkbllaaDoor
open Go.RowKit

set_option maxRecDepth 100000 in
theorem Dk.fresh_n (D : Dk) (sec : Nat) : (D.fresh sec).n = D.n := by
  unfold Dk.fresh
  generalize encoded 0 1 2 (rootBody 0 [] zeros128) = E
  show (put (D.write sec zero128) (sec + 8) E 8).n = _
  rw [put_n]
  rfl
set_option maxRecDepth 100000 in
set_option maxHeartbeats 4000000 in
theorem begin_any {M : Nat → Prop} (n sec : Nat) (w : World) (hT : Tab w) (hM : ∀ b, w.heap.size ≤ b → M b) (h1 : 1 ≤ n) (hn : n ≤ 1023) (hs : sec + 8 * (n + 2) + 1 ≤ 16384) :
    Calls Tryd.prog 29 #[.int .i64 n, .int .i64 sec] w fun e w' => ∃ (F : Secs) (y : StV) (D : Dk), e = .returned (.tuple #[y.val, .bool true]) ∧ Sto F 0 sec n (sec + 8 * (n + 2) + 1) M w' y D (RS.new n) ∧ Below w.heap.size w w' := by
  have HTb := hid hT
  clear hT
  obtain ⟨q, hq⟩ : ∃ z, sec + 8 * (n + 2) + 1 = z := ⟨_, rfl⟩
  have e1 := IntWalk.i64_in ((n : Int) + 2) (by omega)
  have e2 := IntWalk.i64_in (8 * ((n : Int) + 2)) (by omega)
  have e3 := IntWalk.i64_in ((sec : Int) + 8 * ((n : Int) + 2)) (by omega)
  have e4 := IntWalk.i64_in ((sec : Int) + 8 * ((n : Int) + 2) + 1) (by omega)
  have e5 : (sec : Int) + 8 * ((n : Int) + 2) + 1 = (q : Int) := by omega
  have HQ := hid hq
  rw [hq]
  clear hq
  go_enter Tryd.func29, Tryd.ntmps29
  go_wp2_with ((with_reducible refine is_alloc 63 ?_); refine wp_allocB _ arrSto ?_; intro w1 k1 b1 s1; go_frame)
  skip
  refine (new_ok q w1 (by have := HQ.out; omega) (by have := HQ.out; omega)).mono ?_
  rintro e w2 ⟨rfl, b2⟩
  replace k1 := k1.keep b2
  have hB := b1.trans (b2.mono b1.size)
  have l1 : w.heap.size < w2.heap.size := k1.lt
  clear b1 b2 s1
  simp only [DV.v, show ((0 : Nat) : Int) = 0 from rfl]
  go_wp2_with (first
    | ((with_reducible refine is_alloc 27 ?_); refine wp_allocB (w := w2) _ arrDisk ?_; intro w3 k3 b3 s3; go_frame)
    | ((with_reducible refine is_store 27 ?_); refine wp_storeB w2.heap.size _ _ (⟨q, none, none, none, 0⟩ : DV).cs k3 diskN rfl (dv_one _) rfl rfl ?_; intro w4 k4 r4; go_frame; obtain ⟨x0, x1, x2, x3, x4⟩ := k4.c5; dsimp only at x0 x1 x2 x3 x4; simp only [show ((0 : Nat) : Int) = 0 from rfl] at x4; have l4 := k4.lt))
  replace k1 := (k1.keep b3).grown r4 (by simp; omega)
  have hB4 := (hB.trans (b3.mono hB.size)).grown r4 (by have := hB.size; have := b3.size; omega) (fun z hz => by cases hz; omega)
  have hd4 := DkV.new w4 q (by have := HQ.out; omega)
  clear b3 s3 k3 r4 hB
  generalize w2.heap.size = g6 at *
  have R := pcreate_good ⟨q, none, none, none, 0⟩ (Dk.new q) sec n w4 hd4 (HTb.out.keep hB4) h1 hn (by have := HQ.out; show _ ≤ q; omega) (by show (0 : Nat) ≤ _; omega)
  dsimp only [DV.v] at R
  simp only [show ((0 : Nat) : Int) = 0 from rfl] at R
  obtain ⟨DN, hDN⟩ : ∃ z, (Dk.new q).fresh sec = z := ⟨_, rfl⟩
  rw [hDN] at R
  have HDN := hid hDN
  clear hDN
  refine R.mono ?_
  clear R
  rintro e w5 ⟨dx, rfl, hd5, b5⟩
  replace k1 := k1.keep b5
  have hB5 := hB4.trans (b5.mono hB4.size)
  clear x0 x1 x2 x3 x4 l4 k4 hB4 b5 hd4
  have hP0 : (Pgr.mk dx sec n 0 1 [] zeros128 zeros128).ok := ⟨by simp [zeros128], by simp [zeros128], by show sec ≤ 16384; omega, hn, by simp, by simp⟩
  obtain ⟨P0, hPe⟩ : ∃ z, z = Pgr.mk dx sec n 0 1 [] zeros128 zeros128 := ⟨_, rfl⟩
  rw [← hPe] at hP0 ⊢
  have HP0 := hid hPe
  clear hPe
  have l15 : w.heap.size < w5.heap.size := k1.lt
  go_wp2_with (first
    | ((with_reducible refine is_alloc 37 ?_); refine wp_allocB (w := w5) _ arrPgr ?_; intro w6 k6 b6 s6; go_frame)
    | ((with_reducible refine is_store 37 ?_); refine wp_storeP w5.heap.size _ P0 hP0 k6 (by rw [Pgr.cs_len Pgr.zero_ok]) rfl rfl ?_; intro w7 kP r7; go_frame))
  replace k1 := (k1.keep b6).grown r7 (by simp; omega)
  have hd7 := (hd5.keep b6).kept (Kept.grown r7 k6 (by unfold dkT; decide))
  have hB7 := (hB5.trans (b6.mono hB5.size)).grown r7 (by have := hB5.size; have := b6.size; omega) (fun z hz => by cases hz; omega)
  clear b6 s6 k6 r7 hB5 hd5
  generalize w5.heap.size = g8 at *
  have lP := kP.lt
  refine wp_region_headXF 38 11 [27, 28, 29, 30, 31, 32, 33, 34, 35, 36, 37] [8, 9, 10] [8, 9, 10] ((fun kq => ([fun u w' => u = P0.v, fun u w' => u = .int .i64 n, fun u w' => ∃ (v : RV), u = v.v ∧ RVr (fun b => w.heap.size < b) w' v (RS.new n), fun u w' => u = .int .i64 sec, fun u w' => ∃ (v : RV), u = (StV.mk P0 v sec).val ∧ RVr (fun b => w.heap.size < b) w' v (RS.new n), fun u w' => u = .int .i64 0, fun u w' => u = .bool true, fun u w' => u = .bool true, fun u w' => u = .int .i64 0, fun u w' => u = .bool true, fun u w' => u = .bool true] : List (Value → World → Prop)).getD kq (fun _ _ => True))) (by kernel_rfl) rfl (by kernel_rfl) ?grow ?step ?yields ?tail
  case step =>
    simp only [List.take_succ_cons, List.take_zero]
    refine HSteps.cons ?_ ?_
    · intro f w' hb hU
      simp only [putAll, List.foldl_cons, List.foldl_nil]
      go_frame
      go_wp2_with ((with_reducible refine is_load 37 ?_); refine wp_loadP g8 P0 hP0 (kP.keep hb) rfl ?_; go_frame)
      exact ⟨rfl, _, rfl, Below.refl _ _, rfl⟩
    refine HSteps.cons ?_ ?_
    · intro f w' hb hU
      simp only [putAll, List.foldl_cons, List.foldl_nil]
      go_frame
      go_wp2_with fail
      exact ⟨rfl, _, rfl, Below.refl _ _, rfl⟩
    refine HSteps.cons ?_ ?_
    · intro f w' hb hU
      obtain u1 : f 28 = .int .i64 n := hU.get ⟨1, .data⟩ (by simp) rfl
      simp only [putAll, List.foldl_cons, List.foldl_nil]
      go_frame
      try simp only [u1]
      go_wp2_with fail
      refine (rnew_any (N := fun b => w.heap.size < b) n w' (fun b hh => by have := hb.size; omega) hn).mono ?_
      rintro e w3 ⟨v, rfl, hv, b3⟩
      go_wp2_with fail
      exact ⟨rfl, _, rfl, b3, v, rfl, hv⟩
    refine HSteps.cons ?_ ?_
    · intro f w' hb hU
      simp only [putAll, List.foldl_cons, List.foldl_nil]
      go_frame
      go_wp2_with fail
      exact ⟨rfl, _, rfl, Below.refl _ _, rfl⟩
    refine HSteps.cons ?_ ?_
    · intro f w' hb hU
      obtain u0 : f 27 = P0.v := hU.get ⟨0, .data⟩ (by simp) rfl
      obtain ⟨v, u2, v2_0⟩ : ∃ (v : RV), f 29 = v.v ∧ RVr (fun b => w.heap.size < b) w' v (RS.new n) := hU.get ⟨2, .data⟩ (by simp) rfl
      obtain u3 : f 30 = .int .i64 sec := hU.get ⟨3, .data⟩ (by simp) rfl
      simp only [putAll, List.foldl_cons, List.foldl_nil]
      go_frame
      try simp only [u0, u2, u3]
      go_wp2_with (with_reducible refine wp_buildT (StV.mk P0 v sec) hP0 rfl rfl rfl ?_; go_frame)
      exact ⟨rfl, _, rfl, Below.refl _ _, v, rfl, v2_0⟩
    refine HSteps.cons ?_ ?_
    · intro f w' hb hU
      simp only [putAll, List.foldl_cons, List.foldl_nil]
      go_frame
      go_wp2_with fail
      exact ⟨rfl, _, rfl, Below.refl _ _, rfl⟩
    refine HSteps.cons ?_ ?_
    · intro f w' hb hU
      obtain u5 : f 32 = .int .i64 0 := hU.get ⟨5, .data⟩ (by simp) rfl
      simp only [putAll, List.foldl_cons, List.foldl_nil]
      go_frame
      try simp only [u5]
      go_wp2_with fail
      exact ⟨rfl, _, rfl, Below.refl _ _, rfl⟩
    refine HSteps.cons ?_ ?_
    · intro f w' hb hU
      obtain u6 : f 33 = .bool true := hU.get ⟨6, .data⟩ (by simp) rfl
      obtain ⟨v, u2, v2_0⟩ : ∃ (v : RV), f 29 = v.v ∧ RVr (fun b => w.heap.size < b) w' v (RS.new n) := hU.get ⟨2, .chain⟩ (by simp) rfl
      simp only [putAll, List.foldl_cons, List.foldl_nil]
      go_frame
      try simp only [u6, u2]
      go_wp2_with fail
      exact ⟨rfl, _, rfl, Below.refl _ _, rfl⟩
    refine HSteps.cons ?_ ?_
    · intro f w' hb hU
      simp only [putAll, List.foldl_cons, List.foldl_nil]
      go_frame
      obtain u7 : f 34 = .bool true := hU.get ⟨7, .guard⟩ (by simp) rfl
      try simp only [u7]
      go_wp2_with fail
      exact ⟨rfl, _, rfl, Below.refl _ _, rfl⟩
    refine HSteps.cons ?_ ?_
    · intro f w' hb hU
      simp only [putAll, List.foldl_cons, List.foldl_nil]
      go_frame
      obtain u8 : f 35 = .int .i64 0 := hU.get ⟨8, .data⟩ (by simp) rfl
      obtain u7 : f 34 = .bool true := hU.get ⟨7, .guard⟩ (by simp) rfl
      try simp only [u8, u7]
      go_wp2_with fail
      exact ⟨rfl, _, rfl, Below.refl _ _, rfl⟩
    refine HSteps.cons ?_ ?_
    · intro f w' hb hU
      obtain u7 : f 34 = .bool true := hU.get ⟨7, .data⟩ (by simp) rfl
      obtain u9 : f 36 = .bool true := hU.get ⟨9, .data⟩ (by simp) rfl
      simp only [putAll, List.foldl_cons, List.foldl_nil]
      go_frame
      try simp only [u7, u9]
      go_wp2_with fail
      exact ⟨rfl, _, rfl, Below.refl _ _, rfl⟩
    exact HSteps.nil
  case yields =>
    intro kq hkq oq hoq f w' hb hU
    simp only [List.mem_cons, List.not_mem_nil, or_false] at hkq
    rcases hkq with rfl | rfl | rfl
    · simp only [List.getElem?_cons_zero, List.getElem?_cons_succ, Option.some.injEq] at hoq
      subst hoq
      obtain u7 : f 34 = .bool true := hU.get ⟨7, .guard⟩ (by simp) rfl
      simp only [putAll, List.foldl_cons, List.foldl_nil]
      go_frame
      simp only [u7]
      refine ⟨.int .i64 0, .inl ⟨rfl, fun wx => rfl⟩, rfl⟩
    · simp only [List.getElem?_cons_zero, List.getElem?_cons_succ, Option.some.injEq] at hoq
      subst hoq
      obtain u8 : f 35 = .int .i64 0 := hU.get ⟨8, .data⟩ (by simp) rfl
      obtain u7 : f 34 = .bool true := hU.get ⟨7, .guard⟩ (by simp) rfl
      simp only [putAll, List.foldl_cons, List.foldl_nil]
      go_frame
      simp only [u7, u8]
      refine ⟨.bool true, .inl ⟨rfl, fun wx => by simp [execOp, Act.eval, go_sem]⟩, rfl⟩
    · simp only [List.getElem?_cons_zero, List.getElem?_cons_succ, Option.some.injEq] at hoq
      subst hoq
      obtain u7 : f 34 = .bool true := hU.get ⟨7, .data⟩ (by simp) rfl
      obtain u9 : f 36 = .bool true := hU.get ⟨9, .data⟩ (by simp) rfl
      simp only [putAll, List.foldl_cons, List.foldl_nil]
      go_frame
      simp only [u7, u9]
      refine ⟨.bool true, .inl ⟨rfl, fun wx => rfl⟩, rfl⟩
  case grow =>
    intro kq u wa wb hb hu
    rcases kq with _ | _ | _ | _ | _ | _ | _ | _ | _ | _ | _ | kq
    · exact hu
    · exact hu
    · obtain ⟨v, ue, uf0⟩ := hu
      exact ⟨v, ue, uf0.keep hb⟩
    · exact hu
    · obtain ⟨v, ue, uf0⟩ := hu
      exact ⟨v, ue, uf0.keep hb⟩
    · exact hu
    · exact hu
    · exact hu
    · exact hu
    · exact hu
    · exact hu
    · trivial
  case tail =>
    intro f w7 hb7 hU
    obtain ⟨v, u4, v4_0⟩ : ∃ (v : RV), f 31 = (StV.mk P0 v sec).val ∧ RVr (fun b => w.heap.size < b) w7 v (RS.new n) := hU.get 4 (by decide)
    obtain u10 : f 37 = .bool true := hU.get 10 (by decide)
    simp only [List.drop_succ_cons, List.drop_zero, putAll, List.foldl_cons, List.foldl_nil]
    go_frame
    simp only [u4, u10]
    clear u4 u10
    clear hU
    replace k1 := k1.keep hb7
    have hd8 := hd7.keep hb7
    have hB8 := hB7.trans (hb7.mono hB7.size)
    clear hb7 kP
    go_wp2_with ((with_reducible refine is_store 63 ?_); refine wp_storeT w.heap.size _ (StV.mk P0 v sec) hP0 k1 (by rw [StV.cs_len Pgr.zero_ok]) rfl rfl ?_; intro w9 k9 r9; go_frame)
    refine noPanic_ok ?_
    go_wp2_with fail
    have hv9 := (v4_0.grown r9 (fun g hg => by cases hg; omega)).mono (fun b hb => hM b (by omega))
    have hd9 := hd8.kept (Kept.grown r9 k1 notSto)
    have hsim : Sim (Dk.new q).cur P0 DN (RS.new n) 0 := by
      rw [HP0.out, ← HDN.out]
      exact Sim.fresh dx hn h1 (by omega) (by show _ ≤ q; have := HQ.out; omega)
    have hq1 : DN.n = q := by rw [← HDN.out, Dk.fresh_n]; rfl
    refine bodyPost_ret (results_T2 Tryd.results29 _ _ w.heap.size (StV.mk P0 v sec) hP0 rfl k9) rfl ?_
    refine ⟨(Dk.new q).cur, StV.mk P0 v sec, DN, rfl, ⟨hsim, rfl, ?_, rfl, hq1, ?_, hv9⟩, hB8.grown r9 hB8.size (fun z hz => by cases hz; omega)⟩
    · rw [HP0.out]
    · rw [HP0.out]; exact hd9
end Go.Proofs.YtanglofabkbllaaDoor
set_option linter.unusedSimpArgs false
set_option linter.unusedVariables false
namespace Go.Proofs.YtanglofabkbllaaDoor
open Go.RowKit

section
variable {F : Secs} {k sec N : Nat} {p : Pgr} {D : Dk} {S : RS} {w : World}
theorem Good.alloc_ (G : Good F k sec N w p D S) (hT : Tab w) (hk : k ≤ 100000) {id : Nat} (hf : S.first id) {A : Option Addr} {n c : Nat} {l : List UInt8} (hl : RB w A n l) (hn : n ≤ 1000) (hc : n ≤ c) (hcm : c ≤ 9223372036854775807) :
    Calls Tryd.prog 15 #[p.v, .slice A n c] w fun e w' => ∃ (y : Pgr) (D' : Dk), e = .returned (.tuple #[y.v, .int .i64 id, .int .i64 0]) ∧ Good F (k + 1) sec N w' y D' (S.alloc id l) ∧ Below w.heap.size w w' := by
  have hp := G.sim.pok
  have hnum := G.sim.num
  have hnk := G.sim.numk
  have hn' := G.sim.n
  have hD := G.sim.hD
  have hW := G.sim.Wk
  refine (alloc_any p D A n c l w hp hT G.d hl hn hc hcm (by omega) (by omega) (by omega)).mono ?_
  rintro e w' ⟨h | ⟨i, d', h1, h2, h3⟩, b⟩
  · exact absurd ((G.sim.idle id).2 hf.1) (h.1 id)
  · obtain rfl := first_eq ((G.sim.first i).1 h1) hf
    have hs := G.sim.alloc hk hf (l := l) (by have := hl.len; omega) d'
    generalize encoded i (p.num + 1) 1 l = B at h3 hs
    exact ⟨_, _, h2, ⟨hs, G.sec, by rw [put_n]; exact G.dn, h3⟩, b⟩
theorem Good.full (G : Good F k sec N w p D S) (hT : Tab w) (hk : k ≤ 100000) (hf : ∀ id, ¬ S.idle id) {A : Option Addr} {n c : Nat} {l : List UInt8} (hl : RB w A n l) (hn : n ≤ 1000) (hc : n ≤ c) (hcm : c ≤ 9223372036854775807) :
    Calls Tryd.prog 15 #[p.v, .slice A n c] w fun e w' => e = .returned (.tuple #[p.v, .int .i64 0, .int .i64 11]) ∧ Below w.heap.size w w' := by
  have hp := G.sim.pok
  have hnum := G.sim.num
  have hnk := G.sim.numk
  have hn' := G.sim.n
  have hD := G.sim.hD
  have hW := G.sim.Wk
  refine (alloc_any p D A n c l w hp hT G.d hl hn hc hcm (by omega) (by omega) (by omega)).mono ?_
  rintro e w' ⟨h | ⟨i, d', h1, h2, h3⟩, b⟩
  · exact ⟨h.2, b⟩
  · exact absurd ((G.sim.first i).1 h1).1 (hf i)
theorem Good.free_ (G : Good F k sec N w p D S) {id : Nat} (hi : id < 1024) (hu : S.inn id = true) :
    Calls Tryd.prog 16 #[p.v, .int .i64 id] w fun e w' => ∃ (y : Pgr) (D' : Dk), e = .returned (.tuple #[y.v, .int .i64 0]) ∧ Good F (k + 1) sec N w' y D' (S.free id) ∧ Below w.heap.size w w' := by
  refine (free_good p id w G.sim.pok ((G.sim.uses id).trans hu) hi).mono ?_
  rintro e w' ⟨rfl, b⟩
  exact ⟨p.turned id, D, rfl, ⟨G.sim.free hu, G.sec, G.dn, G.d.keep b⟩, b⟩
theorem Good.commit_ (G : Good F k sec N w p D S) (hT : Tab w) (hk : k ≤ 100000) {root : Nat} (h0 : S.rootOk root) (hr : root ≤ 1023) {A : Option Addr} {m c : Nat} {l : List UInt8} (hl : RB w A m l) (hm : m ≤ 256) :
    Calls Tryd.prog 30 #[p.v, .int .i64 root, .slice A m c] w fun e w' => ∃ (y : Pgr) (D' : Dk), e = .returned (.tuple #[y.v, .int .i64 0]) ∧ Good F (k + 1) sec N w' y D' (S.commit root l) ∧ Below w.heap.size w w' := by
  have hp := G.sim.pok
  have hnum := G.sim.num
  have hnk := G.sim.numk
  have hn := G.sim.n
  have hn1 := G.sim.n1
  have hD := G.sim.hD
  have hW := G.sim.Wk
  have h0' : p.rootOk root := h0.elim .inl fun h => .inr ((G.sim.uses root).trans h)
  refine (commit_good p D root A m c l w hp hT G.d hl hm h0' hr (by omega) (by omega) (by omega) (by omega)).mono ?_
  rintro e w' ⟨d', rfl, hd, b⟩
  have hs := G.sim.commit hk h0 (l := l) (by have := hl.len; omega) d'
  generalize encoded 0 (p.num + 1) 2 (rootBody root l p.nu) = B at hd hs
  exact ⟨_, _, rfl, ⟨hs, G.sec, by rw [root_n]; exact G.dn, hd⟩, b⟩
end
end Go.Proofs.YtanglofabkbllaaDoor
set_option linter.unusedSimpArgs false
set_option linter.unusedVariables false
namespace Go.Proofs.YtanglofabkbllaaDoor
open Go.RowKit

theorem notPgr : ¬ dkT 37 := by unfold dkT; decide
def aS1 : RS := (RS.new 2).alloc 1 [1]
def aS2 : RS := aS1.commit 1 []
def aS3 : RS := aS2.alloc 2 [2]
def aS4 : RS := aS3.free 1
def aS5 : RS := aS4.commit 2 []
theorem aw1 : (RS.new 2).first 1 := ⟨⟨by decide, by decide, by decide, by decide⟩, fun j h => h.1⟩
theorem aw2 : aS1.inn 1 = true := by decide
theorem aw3 : aS2.first 2 := ⟨⟨by decide, by decide, by decide, by decide⟩, fun j h => by
  rcases Nat.lt_or_ge j 2 with h2 | h2
  · have := h.1
    obtain rfl : j = 1 := by omega
    exact absurd h.2.2.1 (by decide)
  · exact h2⟩
theorem aw4 : aS3.inn 1 = true := by decide
theorem aw5 : aS4.inn 2 = true := by decide
theorem aw6 : aS5.roomC aS5.n = 1 := by decide
theorem aw7 : aS5.first 1 := ⟨⟨by decide, by decide, by decide, by decide⟩, fun j h => h.1⟩

set_option maxRecDepth 100000 in
set_option maxHeartbeats 8000000 in
theorem awake_any (w : World) (hT : Tab w) :
    Calls Tryd.prog 10 #[] w fun e w' => e = .returned (.bool true) ∧ Below w.heap.size w w' := by
  have HTb := hid hT
  clear hT
  go_enter Tryd.func10, Tryd.ntmps10
  go_wp2_with fail
  have R := begin_any (M := fun _ => True) 2 0 w HTb.out (fun _ _ => trivial) (by omega) (by omega) (by omega)
  rw [show ((2 : Nat) : Int) = 2 from rfl, show ((0 : Nat) : Int) = 0 from rfl] at R
  refine R.mono ?_
  clear R
  rintro e w2 ⟨F, x, D0, rfl, H, B⟩
  have hp := H.sim.pok
  have hG : Good F 0 0 (0 + 8 * (2 + 2) + 1) w2 x.p D0 (RS.new 2) := H.good w2 (Below.refl _ _) (Nat.le_refl _)
  generalize 0 + 8 * (2 + 2) + 1 = N at hG
  clear H
  have hsz := B.size
  go_wp2_with (first
    | ((with_reducible refine is_alloc 63 ?_); refine wp_allocB (w := w2) _ arrSto ?_; intro w3 k3 b3 s3; go_frame)
    | ((with_reducible refine is_store 63 ?_); refine wp_storeT w2.heap.size _ x hp k3 (by rw [StV.cs_len Pgr.zero_ok]) rfl rfl ?_; intro w4 k4 r4; go_frame; have l4 := k4.lt)
    | ((with_reducible refine is_load 37 ?_); refine wp_loadTP w2.heap.size x hp k4 rfl ?_; go_frame))
  -- the rest
  have hG4 := (hG.keep b3).kept (Kept.grown r4 k3 notSto)
  have hB4 := (B.trans (b3.mono hsz)).grown r4 (by have := b3.size; omega) (fun z hz => by cases hz; omega)
  clear hG b3 r4 k3 s3 B hsz k4 l4
  have ba : Below w4.heap.size w4 (w4.alloc (.cells #[.int .u8 1] 5)) := (Below.refl _ _).alloc (Nat.le_refl _) _
  have hl : RB (w4.alloc (.cells #[.int .u8 1] 5)) (some ⟨w4.heap.size, 0, none⟩) 1 [1] := RL.new w4 _ _ _ 1 1 rfl
  obtain ⟨wa, hwa⟩ : ∃ z, w4.alloc (.cells #[.int .u8 1] 5) = z := ⟨_, rfl⟩
  rw [hwa] at ba hl ⊢
  clear hwa
  have hGa := hG4.keep ba
  have hBa := hB4.trans (ba.mono hB4.size)
  refine (hGa.alloc_ (HTb.out.keep hBa) (by omega) aw1 hl (by omega) (by omega) (by omega)).mono ?_
  rintro e w5 ⟨p1, D1, rfl, hG5, b5⟩
  replace hG5 : Good F 1 0 N w5 p1 D1 aS1 := hG5
  simp only [show ((1 : Nat) : Int) = 1 from rfl]
  have hB5 := hBa.trans (b5.mono hBa.size)
  have hq := hG5.sim.pok
  clear hGa hBa b5 ba hl hG4 hB4 hp
  go_wp2_with (first
    | ((with_reducible refine is_alloc 37 ?_); refine wp_allocB (w := w5) _ arrPgr ?_; intro w6 kp b6 s6; go_frame)
    | ((with_reducible refine is_store 37 ?_); refine wp_storeP w5.heap.size _ p1 hq kp (by rw [Pgr.cs_len Pgr.zero_ok]) rfl rfl ?_; intro w7 kp7 r7; go_frame; have l7 := kp7.lt)
    | ((with_reducible refine is_load 37 ?_); refine wp_loadP w5.heap.size p1 hq kp7 rfl ?_; go_frame))
  have hG7 := (hG5.keep b6).kept (Kept.grown r7 kp notPgr)
  have hB7 := (hB5.trans (b6.mono hB5.size)).grown r7 (by have := hB5.size; have := b6.size; omega) (fun z hz => by cases hz; exact hB5.size)
  have hgp := hB5.size
  clear hG5 hB5 b6 s6 r7 kp
  generalize w5.heap.size = gp at *
  have R := hG7.commit_ (root := 1) (HTb.out.keep hB7) (by omega) (.inr aw2) (by omega) (A := none) (m := 0) (l := []) (c := 0) (RL.nil w7 1 none) (by omega)
  rw [show ((1 : Nat) : Int) = 1 from rfl] at R
  refine R.mono ?_
  clear R
  rintro e w8 ⟨p2, D2, rfl, hG8, b8⟩
  replace hG8 : Good F 2 0 N w8 p2 D2 aS2 := hG8
  try simp only [show ((1 : Nat) : Int) = 1 from rfl, show ((2 : Nat) : Int) = 2 from rfl]
  have hB8 := hB7.trans (b8.mono hB7.size)
  have kp8 := kp7.keep b8
  have hq8 := hG8.sim.pok
  have l8 := kp8.lt
  clear hG7 hB7 b8 kp7 l7
  go_wp2_with (first
    | ((with_reducible refine is_store 37 ?_); refine wp_storeP gp _ p2 hq8 kp8 (Pgr.cs_len hq) rfl rfl ?_; intro w9 kp9 r9; go_frame; have l9 := kp9.lt)
    | ((with_reducible refine is_load 37 ?_); refine wp_loadP gp p2 hq8 kp9 rfl ?_; go_frame))
  have hG9 := hG8.kept (Kept.grown r9 kp8 notPgr)
  have hB9 := hB8.grown r9 hB8.size (fun z hz => by cases hz; exact hgp)
  clear hG8 hB8 r9 kp8 l8 hq
  have hq := hq8
  clear hq8
  have hn2 : p2.num = 2 := hG9.sim.num
  have R := root_any p2 w9 hq
  rw [hn2, show ((2 : Nat) : Int) = 2 from rfl] at R
  refine (R).mono ?_
  rintro e w10 ⟨gm, cm, rfl, hm, b10⟩
  have hG10 := hG9.keep b10
  have hB10 := hB9.trans (b10.mono hB9.size)
  have kp10 := kp9.keep b10
  have l10 := kp10.lt
  clear hG9 hB9 kp9 b10 l9
  go_wp2_with ((with_reducible refine is_load 37 ?_); refine wp_loadP gp p2 hq kp10 rfl ?_; go_frame)
  clear R hn2
  have ba : Below w10.heap.size w10 (w10.alloc (.cells #[.int .u8 2] 5)) := (Below.refl _ _).alloc (Nat.le_refl _) _
  have hl : RB (w10.alloc (.cells #[.int .u8 2] 5)) (some ⟨w10.heap.size, 0, none⟩) 1 [2] := RL.new w10 _ _ _ 1 1 rfl
  obtain ⟨wa, hwa⟩ : ∃ z, w10.alloc (.cells #[.int .u8 2] 5) = z := ⟨_, rfl⟩
  rw [hwa] at ba hl ⊢
  clear hwa
  have hGa := hG10.keep ba
  have hBa := hB10.trans (ba.mono hB10.size)
  have kpa := kp10.keep ba
  clear hG10 hB10 kp10 l10
  refine (hGa.alloc_ (HTb.out.keep hBa) (by omega) aw3 hl (by omega) (by omega) (by omega)).mono ?_
  rintro e w11 ⟨p3, D3, rfl, hG11, b11⟩
  have hB10 := hBa
  have kp10 := kpa
  have hG10 := hGa
  have l10 := kpa.lt
  clear hBa kpa hGa ba hl
  replace hG11 : Good F 3 0 N w11 p3 D3 aS3 := hG11
  try simp only [show ((1 : Nat) : Int) = 1 from rfl, show ((2 : Nat) : Int) = 2 from rfl]
  have hB11 := hB10.trans (b11.mono hB10.size)
  have kp11 := kp10.keep b11
  have hq11 := hG11.sim.pok
  have l11 := kp11.lt
  clear hG10 hB10 b11 kp10 l10
  go_wp2_with (first
    | ((with_reducible refine is_store 37 ?_); refine wp_storeP gp _ p3 hq11 kp11 (Pgr.cs_len hq) rfl rfl ?_; intro w12 kp12 r12; go_frame; have l12 := kp12.lt)
    | ((with_reducible refine is_load 37 ?_); refine wp_loadP gp p3 hq11 kp12 rfl ?_; go_frame))
  have hG12 := hG11.kept (Kept.grown r12 kp11 notPgr)
  have hB12 := hB11.grown r12 hB11.size (fun z hz => by cases hz; exact hgp)
  clear hG11 hB11 r12 kp11 l11 hq
  have hq := hq11
  clear hq11
  have R := hG12.free_ (id := 1) (by omega) aw4
  rw [show ((1 : Nat) : Int) = 1 from rfl] at R
  refine R.mono ?_
  clear R
  rintro e w13 ⟨p4, D4, rfl, hG13, b13⟩
  replace hG13 : Good F 4 0 N w13 p4 D4 aS4 := hG13
  try simp only [show ((1 : Nat) : Int) = 1 from rfl, show ((2 : Nat) : Int) = 2 from rfl]
  have hB13 := hB12.trans (b13.mono hB12.size)
  have kp13 := kp12.keep b13
  have hq13 := hG13.sim.pok
  have l13 := kp13.lt
  clear hG12 hB12 b13 kp12 l12
  go_wp2_with (first
    | ((with_reducible refine is_store 37 ?_); refine wp_storeP gp _ p4 hq13 kp13 (Pgr.cs_len hq) rfl rfl ?_; intro w14 kp14 r14; go_frame; have l14 := kp14.lt)
    | ((with_reducible refine is_load 37 ?_); refine wp_loadP gp p4 hq13 kp14 rfl ?_; go_frame))
  have hG14 := hG13.kept (Kept.grown r14 kp13 notPgr)
  have hB14 := hB13.grown r14 hB13.size (fun z hz => by cases hz; exact hgp)
  clear hG13 hB13 r14 kp13 l13 hq
  have hq := hq13
  clear hq13
  have R := hG14.commit_ (root := 2) (HTb.out.keep hB14) (by omega) (.inr aw5) (by omega) (A := none) (m := 0) (l := []) (c := 0) (RL.nil w14 1 none) (by omega)
  rw [show ((2 : Nat) : Int) = 2 from rfl] at R
  refine R.mono ?_
  clear R
  rintro e w15 ⟨p5, D5, rfl, hG15, b15⟩
  replace hG15 : Good F 5 0 N w15 p5 D5 aS5 := hG15
  try simp only [show ((1 : Nat) : Int) = 1 from rfl, show ((2 : Nat) : Int) = 2 from rfl]
  have hB15 := hB14.trans (b15.mono hB14.size)
  have kp15 := kp14.keep b15
  have hq15 := hG15.sim.pok
  have l15 := kp15.lt
  clear hG14 hB14 b15 kp14 l14
  go_wp2_with (first
    | ((with_reducible refine is_store 37 ?_); refine wp_storeP gp _ p5 hq15 kp15 (Pgr.cs_len hq) rfl rfl ?_; intro w16 kp16 r16; go_frame; have l16 := kp16.lt)
    | ((with_reducible refine is_load 37 ?_); refine wp_loadP gp p5 hq15 kp16 rfl ?_; go_frame))
  have hG16 := hG15.kept (Kept.grown r16 kp15 notPgr)
  have hB16 := hB15.grown r16 hB15.size (fun z hz => by cases hz; exact hgp)
  clear hG15 hB15 r16 kp15 l15 hq
  have hq := hq15
  clear hq15
  have R := room_any p5 w16 hq
  rw [hG16.sim.room, aw6, show ((1 : Nat) : Int) = 1 from rfl] at R
  refine (R).mono ?_
  rintro e w17 ⟨rfl, b17⟩
  have hG17 := hG16.keep b17
  have hB17 := hB16.trans (b17.mono hB16.size)
  have kp17 := kp16.keep b17
  have l17 := kp17.lt
  clear hG16 hB16 kp16 b17 l16
  go_wp2_with ((with_reducible refine is_load 37 ?_); refine wp_loadP gp p5 hq kp17 rfl ?_; go_frame)
  clear R
  have ba : Below w17.heap.size w17 (w17.alloc (.cells #[.int .u8 3] 5)) := (Below.refl _ _).alloc (Nat.le_refl _) _
  have hl : RB (w17.alloc (.cells #[.int .u8 3] 5)) (some ⟨w17.heap.size, 0, none⟩) 1 [3] := RL.new w17 _ _ _ 1 1 rfl
  obtain ⟨wa, hwa⟩ : ∃ z, w17.alloc (.cells #[.int .u8 3] 5) = z := ⟨_, rfl⟩
  rw [hwa] at ba hl ⊢
  clear hwa
  have hGa := hG17.keep ba
  have hBa := hB17.trans (ba.mono hB17.size)
  refine (hGa.alloc_ (HTb.out.keep hBa) (by omega) aw7 hl (by omega) (by omega) (by omega)).mono ?_
  rintro e w18 ⟨p6, D6, rfl, hG18, b18⟩
  simp only [show ((1 : Nat) : Int) = 1 from rfl]
  have hq6 := hG18.sim.pok
  have hB18 := hBa.trans (b18.mono hBa.size)
  clear hGa hl ba b18 hG17 kp17 l17 hq
  go_wp2_with (first
    | ((with_reducible refine is_alloc 37 ?_); refine wp_allocB (w := w18) _ arrPgr ?_; intro w19 kp b19 s19; go_frame)
    | ((with_reducible refine is_store 37 ?_); refine wp_storeP w18.heap.size _ p6 hq6 kp (by rw [Pgr.cs_len Pgr.zero_ok]) rfl rfl ?_; intro w20 kp20 r20; go_frame))
  have hB20 := (hB18.trans (b19.mono hB18.size)).grown r20 (by have := hB18.size; have := b19.size; omega) (fun z hz => by cases hz; exact hB18.size)
  go_ret
  exact ⟨rfl, hB20⟩
end Go.Proofs.YtanglofabkbllaaDoor
set_option linter.unusedSimpArgs false
set_option linter.unusedVariables false
namespace Go.Proofs.YtanglofabkbllaaDoor
open Go.ChangeShapes Go.WideShapes Go.ChangeAt Go.RowKit Go.Joins
set_option maxRecDepth 100000

theorem u8_lim {x : Int} (h : (Lit.int .u8 x).wf = true) : ∃ n : Nat, x = n ∧ n ≤ 255 := by
  have : 0 ≤ x ∧ x ≤ 255 := by simpa [Lit.wf, IntKind.min, IntKind.max, IntKind.signed, IntKind.bits] using h
  exact ⟨x.toNat, by omega, by omega⟩
theorem u64_lim {x : Int} (h : (Lit.int .u64 x).wf = true) : ∃ n : Nat, x = n ∧ n < 18446744073709551616 := by
  have : 0 ≤ x ∧ x ≤ 18446744073709551615 := by simpa [Lit.wf, IntKind.min, IntKind.max, IntKind.signed, IntKind.bits] using h
  exact ⟨x.toNat, by omega, by omega⟩
theorem u16_lim {x : Int} (h : (Lit.int .u16 x).wf = true) : ∃ n : Nat, x = n ∧ n < 65536 := by
  have : 0 ≤ x ∧ x ≤ 65535 := by simpa [Lit.wf, IntKind.min, IntKind.max, IntKind.signed, IntKind.bits] using h
  exact ⟨x.toNat, by omega, by omega⟩
theorem cellI : Tryd.prog.cellsOf 5 = 1 ∧ Tryd.prog.cellsOf 64 = 1 ∧ Tryd.prog.cellsOf 31 = 1 ∧ Tryd.prog.cellsOf 66 = 5 := ⟨by kernel_rfl, by kernel_rfl, by kernel_rfl, by kernel_rfl⟩
section
variable {H : Type} {enc : TypeId × Value → H}
theorem act_el (W : World) {base : Nat} {sp : Nat → Bool} {held : Bool} (n : Nat) (cs : List Value) (y : DataW H × List MemPlace) (hl : cs.length = 5)
    (h : DataW.trod enc Tryd.prog W base sp held n 66 cs = some y) : ∃ x : Ac, cs = x.cs ∧ x.ok := by
  obtain ⟨q1, q2, q3, q4⟩ := cellI
  obtain ⟨xs, m, _, _, _, hlen, hf⟩ := DataW.trod_struct Tryd.underlying66 h
  match cs, hl with
  | [c0, c1, c2, c3, c4], _ =>
    match xs, hlen with
    | [y0, y1, y2, y3, y4], _ =>
      have h0 : DataW.trod enc Tryd.prog W base sp held m 5 [c0] = some y0 := by have := hf 0 _ rfl; simpa [q1] using this
      have h1 : DataW.trod enc Tryd.prog W base sp held m 5 [c1] = some y1 := by have := hf 1 _ rfl; simpa [q1] using this
      have h2 : DataW.trod enc Tryd.prog W base sp held m 5 [c2] = some y2 := by have := hf 2 _ rfl; simpa [q1] using this
      have h3 : DataW.trod enc Tryd.prog W base sp held m 64 [c3] = some y3 := by have := hf 3 _ rfl; simpa [q1, q2] using this
      have h4 : DataW.trod enc Tryd.prog W base sp held m 31 [c4] = some y4 := by have := hf 4 _ rfl; simpa [q1, q2, q3] using this
      obtain ⟨x0, e0, _, w0⟩ := DataW.trod_int Tryd.underlying5 h0
      obtain ⟨x1, e1, _, w1⟩ := DataW.trod_int Tryd.underlying5 h1
      obtain ⟨x2, e2, _, w2⟩ := DataW.trod_int Tryd.underlying5 h2
      obtain ⟨x3, e3, _, w3⟩ := DataW.trod_int Tryd.underlying64 h3
      obtain ⟨x4, e4, _, w4⟩ := DataW.trod_int Tryd.underlying31 h4
      obtain ⟨a, rfl, ha⟩ := u8_lim w0
      obtain ⟨b, rfl, hb⟩ := u8_lim w1
      obtain ⟨c, rfl, hc⟩ := u8_lim w2
      obtain ⟨d, rfl, hd⟩ := u16_lim w3
      obtain ⟨q, rfl, hq⟩ := u64_lim w4
      simp only [List.cons.injEq, and_true] at e0 e1 e2 e3 e4
      subst e0 e1 e2 e3 e4
      exact ⟨⟨a, b, c, d, q⟩, rfl, by show a < 256; omega, by show b < 256; omega, by show c < 256; omega, hd, hq⟩
theorem open_acts {W : World} {r : Reach} {b0 base : Nat} {sp : Nat → Bool} {held : Bool} {v : Value} {d : DataW H} {p : List MemPlace}
    (hv : Value.okWide Tryd.prog W r b0 52 v) (h : DataW.Trod enc Tryd.prog W base sp held 52 v d p) :
    ∃ (A : Option Addr) (n c : Nat) (X : List Ac), v = .slice A n c ∧ X.length = n ∧ RL W 5 A n (X.flatMap Ac.cs) ∧ (∀ x ∈ X, x.ok) ∧ n ≤ c ∧ c ≤ 9223372036854775807 :=
  open_list 5 (by omega) Ac.cs (fun _ => rfl) Ac.ok Tryd.underlying52 cellI.2.2.2 (act_el W) hv h
end
theorem few_yes {X : List Ac} (h : fewB X = true) : X.length ≤ 30 ∧ ∀ x ∈ X, x.l ≤ 1100 := by
  unfold fewB at h
  simp only [Bool.and_eq_true, decide_eq_true_eq, List.all_eq_true] at h
  exact ⟨h.2, h.1⟩
section
variable {ops : Array Oper} {rest : List Oper} {Q : Exit → Act → World → Prop} {a : Act} {w : World} {ty : TypeId} {ps : String} {af : Array Edge} {d : Option Tmp} {x : Operand} {gd : Option (Nat × Bool)}
theorem wp_loadTPg (g : Nat) (s : StV) (hs : s.p.ok) (hg : Blk w g 63 s.cs) (hx : a.eval x = .pointer (some ⟨g, 0, none⟩)) (hw : Region.wanted ⟨d, Op.load 37 x, ty, ps, af, gd⟩ (yielded ops a.tmps) = true)
    (h : wpList Tryd.prog ops Q rest (a.put d s.p.v) w) : wpList Tryd.prog ops Q (⟨d, Op.load 37 x, ty, ps, af, gd⟩ :: rest) a w := by
  unfold wpList
  rw [if_pos hw]
  exact .inl (wp_load_mid 37 x rfl g 0 hx s.p.cs _ (StV.rangeP hs hg) Tryd.underlying37 rfl (pgrN.trans (by rw [Pgr.cs_len hs])) h)
theorem wp_loadTVg (g : Nat) (s : StV) (hs : s.p.ok) (hg : Blk w g 63 s.cs) (hx : a.eval x = .pointer (some ⟨g, 266, none⟩)) (hw : Region.wanted ⟨d, Op.load 60 x, ty, ps, af, gd⟩ (yielded ops a.tmps) = true)
    (h : wpList Tryd.prog ops Q rest (a.put d s.v.v) w) : wpList Tryd.prog ops Q (⟨d, Op.load 60 x, ty, ps, af, gd⟩ :: rest) a w := by
  unfold wpList
  rw [if_pos hw]
  exact .inl (wp_load_mid 60 x rfl g 266 hx s.v.cs _ (StV.rangeV hs hg) Tryd.underlying60 rfl (rsN.trans rfl) h)
end
end Go.Proofs.YtanglofabkbllaaDoor
