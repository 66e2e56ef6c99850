/- is of layer 13's laws, walked. Conditions: the table of remainders is laid; pager and reference agree. -/
import Derived.Test.YtanglofabkbllaaDoorDo
import Derived.Test.YtanglofabkbllaaDoorHead
import Derived.Test.YtanglofabkbllaaDoorUsed
set_option linter.unusedSimpArgs false
set_option linter.unusedVariables false
namespace Go.Proofs.YtanglofabkbllaaDoor
open Go.RowKit

set_option maxRecDepth 100000 in
theorem sleq_any (A B : Option Addr) (n c d : Nat) (xs : List Value) (L : List Nat) (w : World) (hL : xs = L.map intV) (ha : RL w 1 A n xs) (hb : RL w 1 B n xs) (hn : n ≤ 100000) :
    Calls Tryd.prog 33 #[.slice A n c, .slice B n d] w fun e w' => e = .returned (.bool true) ∧ Below w.heap.size w w' := by
  have hne : ((n : Int) != (n : Int)) = false := by simp
  go_enter Tryd.func33, Tryd.ntmps33
  go_wp2_with fail
  go_loopw [13] (fun i wr => ∃ k : Nat, k ≤ n ∧ i = .int .i64 k ∧ Below w.heap.size w wr) (fun i _ => n - (intOf i).toNat)
  case atStart => exact ⟨0, by omega, rfl, Below.refl _ _⟩
  case round =>
    obtain ⟨k, hk, rfl, hbel⟩ := hrel
    by_cases hlt : k < n
    · obtain ⟨b1, o1, x1, rfl, hb1, hx1, hc1⟩ := ha.at1 hlt
      obtain ⟨b2, o2, x2, rfl, hb2, hx2, hc2⟩ := hb.at1 hlt
      rw [hx1] at hx2
      cases hx2
      rw [hL, List.getElem?_map] at hx1
      obtain ⟨q, hq⟩ : ∃ q, x1 = intV q := by
        cases h : L[k]? with
        | none => rw [h] at hx1; cases hx1
        | some q => rw [h] at hx1; exact ⟨q, (Option.some.inj hx1).symm⟩
      subst hq
      unfold intV at hc1 hc2
      have hqq : ((q : Int) != (q : Int)) = false := by simp
      clear hx1 ha hb hL
      have C1 := fun x : Ext wr => (x.h.cell (p := ⟨b1, o1 + k, none⟩) (by have := hbel.size; show b1 < _; omega)).trans ((hbel.cell (p := ⟨b1, o1 + k, none⟩) hb1).trans hc1)
      have C2 := fun x : Ext wr => (x.h.cell (p := ⟨b2, o2 + k, none⟩) (by have := hbel.size; show b2 < _; omega)).trans ((hbel.cell (p := ⟨b2, o2 + k, none⟩) hb2).trans hc2)
      go_upto_region 6 with fail
      (refine wp_region_ext (by kernel_rfl) (by kernel_rfl) ?_; (repeat (go_big_quiet_step ((fail)))); refine wpQuiet_nil ?_; rintro _ ⟨z, rfl⟩)
      have hb6 := hbel.trans (z.h.mono hbel.size)
      go_wp2_with fail
      go_roundw
      case measure => simp [intOf]; omega
      case rel => exact ⟨k + 1, by omega, by go_num, hb6⟩
    · obtain rfl : k = n := by omega
      go_wp2_with fail
      go_ret
      exact ⟨rfl, hbel⟩

def RS.nowL (S : RS) (k : Nat) : List Nat := (List.range k).filter S.nowB
theorem RS.nowL_succ (S : RS) (k : Nat) : S.nowL (k + 1) = S.nowL k ++ (if S.nowB k then [k] else []) := by
  unfold RS.nowL
  rw [List.range_succ, List.filter_append]
  congr 1
  cases h : S.nowB k <;> simp [h]
theorem RS.nowL_le (S : RS) (k : Nat) : (S.nowL k).length ≤ k := by
  unfold RS.nowL
  have := List.length_filter_le S.nowB (List.range k)
  rwa [List.length_range] at this
theorem Sim.used {F : Secs} {p : Pgr} {D : Dk} {S : RS} {k : Nat} (h : Sim F p D S k) : p.usedL 1024 = S.nowL (S.n + 1) := by
  have h1 : p.usedL 1024 = S.nowL 1024 := by
    unfold Pgr.usedL RS.nowL
    refine List.filter_congr fun i hi => h.nu i (List.mem_range.1 hi)
  have hn := h.sok.n
  have h2 : ∀ m, S.nowL (S.n + 1 + m) = S.nowL (S.n + 1) := by
    intro m
    induction m with
    | zero => rfl
    | succ m ih =>
      rw [← Nat.add_assoc, RS.nowL_succ, ih]
      have : S.nowB (S.n + 1 + m) = false := by
        cases hb : S.nowB (S.n + 1 + m) with
        | false => rfl
        | true => have := nowB_in h.sok hb; omega
      rw [this]
      simp
  have := h2 (1024 - (S.n + 1))
  rw [show S.n + 1 + (1024 - (S.n + 1)) = 1024 by omega] at this
  rw [h1, this]

set_option maxRecDepth 100000 in
set_option maxHeartbeats 16000000 in
theorem is_any {F : Secs} {M : Nat → Prop} {k : Nat} (p : Pgr) (v : RV) (D : Dk) (S : RS) (w : World) (hT : Tab w) (hS : Sim F p D S k) (hd : DkV w p.d D) (hv : RVr M w v S) :
    Calls Tryd.prog 34 #[p.v, v.v] w fun e w' => e = .returned (.bool true) ∧ Below w.heap.size w w' := by
  have hp := hS.pok
  have hn1 := hS.sok.n
  have HR := hid hv
  have HTb := hid hT
  have HD := hid hd
  have HS := hid hS
  have hvn := hv.n
  have hvr := hv.root
  have hvm := hv.num
  have hk := hv.kn.1
  have hbn := hv.bn.1
  have hmn := hv.m.len
  have hroot := hS.root
  have hnum := hS.num
  have hmt := hS.mt
  have HRm := hid (And.intro (room_any p) hS.room)
  clear hv hT hd hS
  obtain ⟨vn, vr, vm, ⟨mA, mn, mc⟩, u, ⟨kA, kn, kc⟩, ⟨bA, bn, bc⟩⟩ := v
  dsimp only at hvn hvr hvm hk hbn hmn
  subst hvn hvr hvm hk hbn hmn
  have U := used_any p
  rw [HS.out.used] at U
  have HU := hid U
  clear U
  unfold Pgr.v
  rw [RV.vv]
  dsimp only
  go_enter Tryd.func34, Tryd.ntmps34
  go_upto_region 1 with fail
  generalize hw3 : World.alloc (World.alloc w _) _ = v3
  obtain ⟨k1, k2, B⟩ := two_boxes_r (cs1 := p.cs) (cs2 := RV.cs ⟨S.n, S.root, S.num, ⟨mA, S.mt.length, mc⟩, u, ⟨kA, S.n + 1, kc⟩, ⟨bA, S.n + 1, bc⟩⟩) hw3
  clear hw3
  obtain ⟨V, hV⟩ : ∃ z : RV, z = ⟨S.n, S.root, S.num, ⟨mA, S.mt.length, mc⟩, u, ⟨kA, S.n + 1, kc⟩, ⟨bA, S.n + 1, bc⟩⟩ := ⟨_, rfl⟩
  rw [← hV] at k2 HR
  have HV := hid hV
  clear hV
  go_wp2_with ((with_reducible refine is_load 37 ?_); refine wp_loadP w.heap.size p hp k1 rfl ?_; go_frame)
  have R := root_any p v3 hp
  rw [hroot, hnum, hmt] at R
  refine R.mono ?_
  clear R hroot hnum hmt
  rintro e w4 ⟨gm, cm, rfl, hm, b4⟩
  replace k1 := k1.keep b4
  replace k2 := k2.keep b4
  replace B := B.trans (b4.mono B.size)
  clear b4
  have k2' := k2
  rw [HV.out] at k2'
  obtain ⟨x0, x1, x2, x3, x4, x5, x6⟩ := k2'.c7
  unfold Sl.v at x3 x4 x5 x6
  dsimp only at x3 x4 x5 x6
  have l2 := k2.lt
  go_wp2_with fail
  clear x0 x1 x2 x3 x4 x5 x6 k2'
  have hs4 := B.size
  go_loopw [8, 23] (fun q i wr => ∃ j : Nat, j ≤ S.n + 1 ∧ i = .int .i64 j ∧ wr.ownsRow w4.heap.size 3 1 q (S.nowL j).length ((S.nowL j).map intV) ∧ Below w4.heap.size w4 wr) (fun _ i _ => S.n + 1 - (intOf i).toNat)
  case atStart => exact ⟨0, by omega, rfl, World.ownsRow_nil _ _ _ _, Below.refl _ _⟩
  case round =>
    obtain ⟨j, hj, rfl, hown, hbel⟩ := hrel
    by_cases hlt : j < S.n + 1
    · obtain ⟨b2, o2, rA, hb2, hc2⟩ := (HR.out.keep (B.trans (hbel.mono B.size))).kat (i := j) (by omega)
      rw [HV.out] at rA
      dsimp only at rA
      subst rA
      have ti : (j : Int) < ((S.n + 1 : Nat) : Int) := by omega
      have hle := S.nowL_le j
      have HSU := hid (S.nowL_succ j)
      obtain ⟨bb, hbb⟩ : ∃ z, S.nowB j = z := ⟨_, rfl⟩
      rw [hbb] at hc2 HSU
      clear hbb
      generalize S.nowL j = L at *
      have hs5 := hbel.size
      cases bb with
      | false =>
        go_wp2_with fail
        go_roundw
        case measure => simp [intOf]; omega
        case rel =>
          refine ⟨j + 1, by omega, by go_num, ?_, hbel⟩
          rw [HSU.out]
          simpa using hown
      | true =>
        go_wp2_with (at_builtin; refine wp_appN rfl _ _ 48 rfl w4.heap.size 3 _ 1 8 intT.el u8 L.length (L.map intV) (hown.alloc _) rfl _ 1 1 [.int .i64 j] (RL.new _ _ _ _ 1 1 rfl) rfl (by intro v hv; rw [List.mem_singleton] at hv; subst hv; rfl) (by unfold maxLen; omega) (by omega) (by simp; omega) ?_; intro v6 w6 hown6 r6 a6; go_frame)
        have ba : Below wr.heap.size wr (wr.alloc (.cells #[.int .i64 (j : Int)] 3)) := (Below.refl _ _).alloc (Nat.le_refl _) _
        have hb6 := (hbel.trans (ba.mono hbel.size)).grown r6 (by simp; omega) (fun q hq => (hown.lt q hq).1)
        go_roundw
        case measure => simp [intOf]; omega
        case rel =>
          refine ⟨j + 1, by omega, by go_num, ?_, hb6⟩
          rw [HSU.out]
          simpa [intV] using hown6
    · obtain rfl : j = S.n + 1 := by omega
      go_upto_region 9 with fail
      obtain ⟨A8, c8, rfl, r8, _, _⟩ := own_form hown
      have hl8 := S.nowL_le (S.n + 1)
      replace k1 := k1.keep hbel
      replace k2 := k2.keep hbel
      replace B := B.trans (hbel.mono B.size)
      replace hm := RL.below hm hbel
      have ne1 : ((S.root : Int) != (S.root : Int)) = false := by simp
      have ne2 : ((S.num : Int) != (S.num : Int)) = false := by simp
      obtain ⟨lv, hlv⟩ : ∃ z, (S.nowL (S.n + 1)).map intV = z := ⟨_, rfl⟩
      have Hmm := HR.out.m.rb
      rw [HV.out] at Hmm
      dsimp only at Hmm
      rw [hlv] at r8 HU
      have HE := hid (fun wx (hb : Below wr.heap.size wr wx) => equal_any (some ⟨gm, 0, none⟩) mA S.mt.length cm S.mt.length mc S.mt S.mt wx (RL.below hm hb) (Hmm.below (B.trans (hb.mono B.size))))
      have HQ := hid (fun wx (hb : Below wr.heap.size wr wx) A c (ha : RL wx 1 A (S.nowL (S.n + 1)).length lv) => sleq_any A A8 (S.nowL (S.n + 1)).length c c8 lv _ wx hlv.symm ha (RL.below r8 hb) (by omega))
      have HPr := hid (fun wx => HRm.out.1 wx hp)
      rw [HRm.out.2] at HPr
      have HRr := hid (fun wx (hb : Below wr.heap.size wr wx) => rroom_any V S wx (HR.out.keep (B.trans (hb.mono B.size))))
      generalize S.roomC S.n = rm at HPr HRr
      have ne3 : ((rm : Int) != (rm : Int)) = false := by simp
      clear hown r8 hm Hmm hlv HRm hs4 hbel hj
      have l2 := k2.lt
      refine wp_region_head 101 31 [34, 35, 36, 37, 38, 39, 40, 41, 42, 43, 44, 45, 46, 47, 48, 49, 50, 51, 52, 53, 54, 55, 56, 57, 58, 59, 60, 61, 62, 63, 64] [] ((fun kq => ([fun u w' => u = .int .i64 S.root, fun u w' => u = .pointer (some ⟨w.heap.size + 1, 1, none⟩), fun u w' => u = .int .i64 S.root, fun u w' => u = .bool false, fun u w' => u = .bool false, fun u w' => u = .int .u64 S.num, fun u w' => u = .pointer (some ⟨w.heap.size + 1, 2, none⟩), fun u w' => u = .int .u64 S.num, fun u w' => u = .bool false, fun u w' => u = .bool false, fun u w' => u = .bool false, fun u w' => u = .slice (some ⟨gm, 0, none⟩) S.mt.length cm, fun u w' => u = .pointer (some ⟨w.heap.size + 1, 3, none⟩), fun u w' => u = .slice mA S.mt.length mc, fun u w' => u = .bool true, fun u w' => u = .bool false, fun u w' => u = .bool false, fun u w' => u = .bool false, fun u w' => u = p.v, fun u w' => ∃ (gu : Option Addr), ∃ (cu : Nat), u = .slice gu (S.nowL (S.n + 1)).length cu ∧ RL w' 1 gu (S.nowL (S.n + 1)).length lv, fun u w' => u = .slice A8 (S.nowL (S.n + 1)).length c8, fun u w' => u = .bool true, fun u w' => u = .bool false, fun u w' => u = .bool false, fun u w' => u = .bool false, fun u w' => u = p.v, fun u w' => u = .int .i64 rm, fun u w' => u = V.v, fun u w' => u = .int .i64 rm, fun u w' => u = .bool false, fun u w' => u = .bool false] : List (Value → World → Prop)).getD kq (fun _ _ => True))) (by kernel_rfl) rfl (by kernel_rfl) (.inl rfl) ?grow ?step ?tail
      case step =>
        simp only [List.take_succ_cons, List.take_zero]
        refine HSteps.cons ?_ ?_
        · intro f w' hb hU
          simp only [putAll, List.foldl_cons, List.foldl_nil]
          go_frame
          go_wp2_with fail
          exact ⟨rfl, _, rfl, Below.refl _ _, rfl⟩
        refine HSteps.cons ?_ ?_
        · intro f w' hb hU
          simp only [putAll, List.foldl_cons, List.foldl_nil]
          go_frame
          go_wp2_with fail
          exact ⟨rfl, _, rfl, Below.refl _ _, rfl⟩
        refine HSteps.cons ?_ ?_
        · intro f w' hb hU
          obtain u1 : f 35 = .pointer (some ⟨w.heap.size + 1, 1, none⟩) := hU.get ⟨1, .data⟩ (by simp) rfl
          have k2' := k2.keep hb
          rw [HV.out] at k2'
          have c7 := k2'.c7
          unfold Sl.v at c7
          dsimp only at c7
          have x1 := c7.2.1
          simp only [putAll, List.foldl_cons, List.foldl_nil]
          go_frame
          try simp only [u1]
          go_wp2_with fail
          exact ⟨rfl, _, rfl, Below.refl _ _, rfl⟩
        refine HSteps.cons ?_ ?_
        · intro f w' hb hU
          obtain u0 : f 34 = .int .i64 S.root := hU.get ⟨0, .data⟩ (by simp) rfl
          obtain u2 : f 36 = .int .i64 S.root := hU.get ⟨2, .data⟩ (by simp) rfl
          simp only [putAll, List.foldl_cons, List.foldl_nil]
          go_frame
          try simp only [u0, u2]
          go_wp2_with fail
          exact ⟨rfl, _, rfl, Below.refl _ _, rfl⟩
        refine HSteps.cons ?_ ?_
        · intro f w' hb hU
          obtain u3 : f 37 = .bool false := hU.get ⟨3, .data⟩ (by simp) rfl
          simp only [putAll, List.foldl_cons, List.foldl_nil]
          go_frame
          try simp only [u3]
          go_wp2_with fail
          exact ⟨rfl, _, rfl, Below.refl _ _, rfl⟩
        refine HSteps.cons ?_ ?_
        · intro f w' hb hU
          simp only [putAll, List.foldl_cons, List.foldl_nil]
          go_frame
          obtain u4 : f 38 = .bool false := hU.get ⟨4, .guard⟩ (by simp) rfl
          try simp only [u4]
          go_wp2_with fail
          exact ⟨rfl, _, rfl, Below.refl _ _, rfl⟩
        refine HSteps.cons ?_ ?_
        · intro f w' hb hU
          simp only [putAll, List.foldl_cons, List.foldl_nil]
          go_frame
          obtain u4 : f 38 = .bool false := hU.get ⟨4, .guard⟩ (by simp) rfl
          try simp only [u4]
          go_wp2_with fail
          exact ⟨rfl, _, rfl, Below.refl _ _, rfl⟩
        refine HSteps.cons ?_ ?_
        · intro f w' hb hU
          simp only [putAll, List.foldl_cons, List.foldl_nil]
          go_frame
          obtain u6 : f 40 = .pointer (some ⟨w.heap.size + 1, 2, none⟩) := hU.get ⟨6, .data⟩ (by simp) rfl
          obtain u4 : f 38 = .bool false := hU.get ⟨4, .guard⟩ (by simp) rfl
          have k2' := k2.keep hb
          rw [HV.out] at k2'
          have c7 := k2'.c7
          unfold Sl.v at c7
          dsimp only at c7
          have x2 := c7.2.2.1
          try simp only [u6, u4]
          go_wp2_with fail
          exact ⟨rfl, _, rfl, Below.refl _ _, rfl⟩
        refine HSteps.cons ?_ ?_
        · intro f w' hb hU
          simp only [putAll, List.foldl_cons, List.foldl_nil]
          go_frame
          obtain u5 : f 39 = .int .u64 S.num := hU.get ⟨5, .data⟩ (by simp) rfl
          obtain u7 : f 41 = .int .u64 S.num := hU.get ⟨7, .data⟩ (by simp) rfl
          obtain u4 : f 38 = .bool false := hU.get ⟨4, .guard⟩ (by simp) rfl
          try simp only [u5, u7, u4]
          go_wp2_with fail
          exact ⟨rfl, _, rfl, Below.refl _ _, rfl⟩
        refine HSteps.cons ?_ ?_
        · intro f w' hb hU
          obtain u4 : f 38 = .bool false := hU.get ⟨4, .data⟩ (by simp) rfl
          obtain u8 : f 42 = .bool false := hU.get ⟨8, .data⟩ (by simp) rfl
          simp only [putAll, List.foldl_cons, List.foldl_nil]
          go_frame
          try simp only [u4, u8]
          go_wp2_with fail
          exact ⟨rfl, _, rfl, Below.refl _ _, rfl⟩
        refine HSteps.cons ?_ ?_
        · intro f w' hb hU
          obtain u9 : f 43 = .bool false := hU.get ⟨9, .data⟩ (by simp) rfl
          obtain u4 : f 38 = .bool false := hU.get ⟨4, .chain⟩ (by simp) rfl
          simp only [putAll, List.foldl_cons, List.foldl_nil]
          go_frame
          try simp only [u9, u4]
          go_wp2_with fail
          exact ⟨rfl, _, rfl, Below.refl _ _, rfl⟩
        refine HSteps.cons ?_ ?_
        · intro f w' hb hU
          simp only [putAll, List.foldl_cons, List.foldl_nil]
          go_frame
          obtain u10 : f 44 = .bool false := hU.get ⟨10, .guard⟩ (by simp) rfl
          try simp only [u10]
          go_wp2_with fail
          exact ⟨rfl, _, rfl, Below.refl _ _, rfl⟩
        refine HSteps.cons ?_ ?_
        · intro f w' hb hU
          simp only [putAll, List.foldl_cons, List.foldl_nil]
          go_frame
          obtain u10 : f 44 = .bool false := hU.get ⟨10, .guard⟩ (by simp) rfl
          try simp only [u10]
          go_wp2_with fail
          exact ⟨rfl, _, rfl, Below.refl _ _, rfl⟩
        refine HSteps.cons ?_ ?_
        · intro f w' hb hU
          simp only [putAll, List.foldl_cons, List.foldl_nil]
          go_frame
          obtain u12 : f 46 = .pointer (some ⟨w.heap.size + 1, 3, none⟩) := hU.get ⟨12, .data⟩ (by simp) rfl
          obtain u10 : f 44 = .bool false := hU.get ⟨10, .guard⟩ (by simp) rfl
          have k2' := k2.keep hb
          rw [HV.out] at k2'
          have c7 := k2'.c7
          unfold Sl.v at c7
          dsimp only at c7
          have x3 := c7.2.2.2.1
          try simp only [u12, u10]
          go_wp2_with fail
          exact ⟨rfl, _, rfl, Below.refl _ _, rfl⟩
        refine HSteps.cons ?_ ?_
        · intro f w' hb hU
          simp only [putAll, List.foldl_cons, List.foldl_nil]
          go_frame
          obtain u11 : f 45 = .slice (some ⟨gm, 0, none⟩) S.mt.length cm := hU.get ⟨11, .data⟩ (by simp) rfl
          obtain u13 : f 47 = .slice mA S.mt.length mc := hU.get ⟨13, .data⟩ (by simp) rfl
          obtain u10 : f 44 = .bool false := hU.get ⟨10, .chain⟩ (by simp) rfl
          try simp only [u11, u13, u10]
          go_wp2_with fail
          refine (HE.out w' hb).mono ?_
          rintro e w3 ⟨rfl, rfl⟩
          go_wp2_with fail
          exact ⟨rfl, _, rfl, (Below.refl _ _), rfl⟩
        refine HSteps.cons ?_ ?_
        · intro f w' hb hU
          simp only [putAll, List.foldl_cons, List.foldl_nil]
          go_frame
          obtain u14 : f 48 = .bool true := hU.get ⟨14, .data⟩ (by simp) rfl
          obtain u10 : f 44 = .bool false := hU.get ⟨10, .guard⟩ (by simp) rfl
          try simp only [u14, u10]
          go_wp2_with fail
          exact ⟨rfl, _, rfl, Below.refl _ _, rfl⟩
        refine HSteps.cons ?_ ?_
        · intro f w' hb hU
          obtain u10 : f 44 = .bool false := hU.get ⟨10, .data⟩ (by simp) rfl
          obtain u15 : f 49 = .bool false := hU.get ⟨15, .data⟩ (by simp) rfl
          simp only [putAll, List.foldl_cons, List.foldl_nil]
          go_frame
          try simp only [u10, u15]
          go_wp2_with fail
          exact ⟨rfl, _, rfl, Below.refl _ _, rfl⟩
        refine HSteps.cons ?_ ?_
        · intro f w' hb hU
          obtain u16 : f 50 = .bool false := hU.get ⟨16, .data⟩ (by simp) rfl
          obtain u14 : f 48 = .bool true := hU.get ⟨14, .chain⟩ (by simp) rfl
          simp only [putAll, List.foldl_cons, List.foldl_nil]
          go_frame
          try simp only [u16, u14]
          go_wp2_with fail
          exact ⟨rfl, _, rfl, Below.refl _ _, rfl⟩
        refine HSteps.cons ?_ ?_
        · intro f w' hb hU
          simp only [putAll, List.foldl_cons, List.foldl_nil]
          go_frame
          obtain u17 : f 51 = .bool false := hU.get ⟨17, .guard⟩ (by simp) rfl
          try simp only [u17]
          go_wp2_with ((with_reducible refine is_load 37 ?_); refine wp_loadPg w.heap.size p hp (k1.keep hb) rfl rfl ?_; go_frame)
          exact ⟨rfl, _, rfl, Below.refl _ _, rfl⟩
        refine HSteps.cons ?_ ?_
        · intro f w' hb hU
          simp only [putAll, List.foldl_cons, List.foldl_nil]
          go_frame
          obtain u18 : f 52 = p.v := hU.get ⟨18, .data⟩ (by simp) rfl
          obtain u17 : f 51 = .bool false := hU.get ⟨17, .chain⟩ (by simp) rfl
          try simp only [u18, u17]
          go_wp2_with fail
          refine (HU.out w' hp).mono ?_
          rintro e w3 ⟨vv, rfl, hvv, b3⟩
          obtain ⟨gu, cu, rfl, hru, _, _⟩ := own_form hvv
          go_wp2_with fail
          exact ⟨rfl, _, rfl, b3, gu, cu, rfl, hru⟩
        refine HSteps.cons ?_ ?_
        · intro f w' hb hU
          simp only [putAll, List.foldl_cons, List.foldl_nil]
          go_frame
          obtain u17 : f 51 = .bool false := hU.get ⟨17, .guard⟩ (by simp) rfl
          try simp only [u17]
          go_wp2_with fail
          exact ⟨rfl, _, rfl, Below.refl _ _, rfl⟩
        refine HSteps.cons ?_ ?_
        · intro f w' hb hU
          simp only [putAll, List.foldl_cons, List.foldl_nil]
          go_frame
          obtain ⟨gu, cu, u19, v19_0⟩ : ∃ (gu : Option Addr), ∃ (cu : Nat), f 53 = .slice gu (S.nowL (S.n + 1)).length cu ∧ RL w' 1 gu (S.nowL (S.n + 1)).length lv := hU.get ⟨19, .data⟩ (by simp) rfl
          obtain u20 : f 54 = .slice A8 (S.nowL (S.n + 1)).length c8 := hU.get ⟨20, .data⟩ (by simp) rfl
          obtain u17 : f 51 = .bool false := hU.get ⟨17, .guard⟩ (by simp) rfl
          try simp only [u19, u20, u17]
          go_wp2_with fail
          refine (HQ.out w' hb gu cu v19_0).mono ?_
          rintro e w3 ⟨rfl, b3⟩
          go_wp2_with fail
          exact ⟨rfl, _, rfl, b3, rfl⟩
        refine HSteps.cons ?_ ?_
        · intro f w' hb hU
          simp only [putAll, List.foldl_cons, List.foldl_nil]
          go_frame
          obtain u21 : f 55 = .bool true := hU.get ⟨21, .data⟩ (by simp) rfl
          obtain u17 : f 51 = .bool false := hU.get ⟨17, .guard⟩ (by simp) rfl
          try simp only [u21, u17]
          go_wp2_with fail
          exact ⟨rfl, _, rfl, Below.refl _ _, rfl⟩
        refine HSteps.cons ?_ ?_
        · intro f w' hb hU
          obtain u17 : f 51 = .bool false := hU.get ⟨17, .data⟩ (by simp) rfl
          obtain u22 : f 56 = .bool false := hU.get ⟨22, .data⟩ (by simp) rfl
          simp only [putAll, List.foldl_cons, List.foldl_nil]
          go_frame
          try simp only [u17, u22]
          go_wp2_with fail
          exact ⟨rfl, _, rfl, Below.refl _ _, rfl⟩
        refine HSteps.cons ?_ ?_
        · intro f w' hb hU
          obtain u23 : f 57 = .bool false := hU.get ⟨23, .data⟩ (by simp) rfl
          obtain u21 : f 55 = .bool true := hU.get ⟨21, .chain⟩ (by simp) rfl
          simp only [putAll, List.foldl_cons, List.foldl_nil]
          go_frame
          try simp only [u23, u21]
          go_wp2_with fail
          exact ⟨rfl, _, rfl, Below.refl _ _, rfl⟩
        refine HSteps.cons ?_ ?_
        · intro f w' hb hU
          simp only [putAll, List.foldl_cons, List.foldl_nil]
          go_frame
          obtain u24 : f 58 = .bool false := hU.get ⟨24, .guard⟩ (by simp) rfl
          try simp only [u24]
          go_wp2_with ((with_reducible refine is_load 37 ?_); refine wp_loadPg w.heap.size p hp (k1.keep hb) rfl rfl ?_; go_frame)
          exact ⟨rfl, _, rfl, Below.refl _ _, rfl⟩
        refine HSteps.cons ?_ ?_
        · intro f w' hb hU
          simp only [putAll, List.foldl_cons, List.foldl_nil]
          go_frame
          obtain u25 : f 59 = p.v := hU.get ⟨25, .data⟩ (by simp) rfl
          obtain u24 : f 58 = .bool false := hU.get ⟨24, .chain⟩ (by simp) rfl
          try simp only [u25, u24]
          go_wp2_with fail
          refine (HPr.out w').mono ?_
          rintro e w3 ⟨rfl, b3⟩
          go_wp2_with fail
          exact ⟨rfl, _, rfl, b3, rfl⟩
        refine HSteps.cons ?_ ?_
        · intro f w' hb hU
          simp only [putAll, List.foldl_cons, List.foldl_nil]
          go_frame
          obtain u24 : f 58 = .bool false := hU.get ⟨24, .guard⟩ (by simp) rfl
          try simp only [u24]
          go_wp2_with ((with_reducible refine is_load 60 ?_); refine wp_loadRg (w.heap.size + 1) V (k2.keep hb) rfl rfl ?_; go_frame)
          exact ⟨rfl, _, rfl, Below.refl _ _, rfl⟩
        refine HSteps.cons ?_ ?_
        · intro f w' hb hU
          simp only [putAll, List.foldl_cons, List.foldl_nil]
          go_frame
          obtain u27 : f 61 = V.v := hU.get ⟨27, .data⟩ (by simp) rfl
          obtain u26 : f 60 = .int .i64 rm := hU.get ⟨26, .chain⟩ (by simp) rfl
          obtain u24 : f 58 = .bool false := hU.get ⟨24, .guard⟩ (by simp) rfl
          try simp only [u27, u26, u24]
          go_wp2_with fail
          refine (HRr.out w' hb).mono ?_
          rintro e w3 ⟨rfl, b3⟩
          go_wp2_with fail
          exact ⟨rfl, _, rfl, b3, rfl⟩
        refine HSteps.cons ?_ ?_
        · intro f w' hb hU
          simp only [putAll, List.foldl_cons, List.foldl_nil]
          go_frame
          obtain u26 : f 60 = .int .i64 rm := hU.get ⟨26, .data⟩ (by simp) rfl
          obtain u28 : f 62 = .int .i64 rm := hU.get ⟨28, .data⟩ (by simp) rfl
          obtain u24 : f 58 = .bool false := hU.get ⟨24, .guard⟩ (by simp) rfl
          try simp only [u26, u28, u24]
          go_wp2_with fail
          exact ⟨rfl, _, rfl, Below.refl _ _, rfl⟩
        refine HSteps.cons ?_ ?_
        · intro f w' hb hU
          obtain u24 : f 58 = .bool false := hU.get ⟨24, .data⟩ (by simp) rfl
          obtain u29 : f 63 = .bool false := hU.get ⟨29, .data⟩ (by simp) rfl
          simp only [putAll, List.foldl_cons, List.foldl_nil]
          go_frame
          try simp only [u24, u29]
          go_wp2_with fail
          exact ⟨rfl, _, rfl, Below.refl _ _, rfl⟩
        exact HSteps.nil
      case grow =>
        intro kq u wa wb hb hu
        rcases kq with _ | _ | _ | _ | _ | _ | _ | _ | _ | _ | _ | _ | _ | _ | _ | _ | _ | _ | _ | _ | _ | _ | _ | _ | _ | _ | _ | _ | _ | _ | _ | kq
        · exact hu
        · exact hu
        · exact hu
        · exact hu
        · exact hu
        · exact hu
        · exact hu
        · exact hu
        · exact hu
        · exact hu
        · exact hu
        · exact hu
        · exact hu
        · exact hu
        · exact hu
        · exact hu
        · exact hu
        · exact hu
        · exact hu
        · obtain ⟨gu, cu, ue, uf0⟩ := hu
          exact ⟨gu, cu, ue, uf0.below hb⟩
        · exact hu
        · exact hu
        · exact hu
        · exact hu
        · exact hu
        · exact hu
        · exact hu
        · exact hu
        · exact hu
        · exact hu
        · exact hu
        · trivial
      case tail =>
        intro f w7 hb7 hU
        obtain u30 : f 64 = .bool false := hU.get 30 (by decide)
        simp only [List.drop_succ_cons, List.drop_zero, putAll, List.foldl_cons, List.foldl_nil]
        go_frame
        simp only [u30]
        clear u30
        clear hU
        replace k1 := k1.keep hb7
        replace k2 := k2.keep hb7
        replace B := B.trans (hb7.mono B.size)
        clear HE HQ HU HPr HRr hb7 l2 ne1 ne2 ne3
        have e9 := IntWalk.i64_in ((S.n : Int) + 1) (by omega)
        obtain ⟨n1, hn1'⟩ : ∃ z, S.n + 1 = z := ⟨_, rfl⟩
        rw [hn1'] at HV ⊢
        have HN1 := hid hn1'
        clear hn1'
        go_wp2_with fail
        go_loopw [11] (fun i wr => ∃ j : Nat, j ≤ S.n + 3 ∧ i = .int .i64 ((j : Int) - 1) ∧ Below w7.heap.size w7 wr) (fun i _ => S.n + 3 - (intOf i + 1).toNat)
        case atStart => exact ⟨0, by omega, rfl, Below.refl _ _⟩
        case round =>
          obtain ⟨j, hj, rfl, hbel⟩ := hrel
          have kQ1 := k1.keep hbel
          have kQ2 := k2.keep hbel
          have BQ := B.trans (hbel.mono B.size)
          have k2' := kQ2
          rw [HV.out] at k2'
          have c7 := k2'.c7
          unfold Sl.v at c7
          dsimp only at c7
          have x0 := c7.1
          have lq := kQ2.lt
          clear c7 k2'
          by_cases hlt : j < S.n + 3
          · obtain ⟨id, hidq⟩ : ∃ z : Int, (j : Int) - 1 = z := ⟨_, rfl⟩
            have e8 := IntWalk.i64_in (id + 1) (by omega)
            have t1 : id ≤ (S.n : Int) + 1 := by omega
            rw [hidq]
            have hnx : id + 1 = ((j + 1 : Nat) : Int) - 1 := by omega
            have hms : (id + 1).toNat = j := by omega
            have hms2 : (id + 1 + 1).toNat = j + 1 := by omega
            have Hj := And.intro hidq hnx
            cases hu : S.inn id with
            | false =>
              have R := pgread_no p id wr hp ((HS.out.uses id).trans hu)
              have HI := hid (fun wx (hb : Below wr.heap.size wr wx) => in_any V S id wx (HR.out.keep (BQ.trans (hb.mono BQ.size))))
              rw [hu] at HI
              clear hidq hnx hu Hj
              go_wp2_with ((with_reducible refine is_load 37 ?_); refine wp_loadP w.heap.size p hp kQ1 rfl ?_; go_frame)
              refine R.mono ?_
              rintro e w8 ⟨rfl, b8⟩
              clear R x0 lq
              have kR2 := kQ2.keep b8
              have lr := kR2.lt
              go_wp2_with ((with_reducible refine is_load 60 ?_); refine wp_loadR (w.heap.size + 1) V kR2 rfl ?_; go_frame)
              refine (HI.out w8 b8).mono ?_
              rintro e w9 ⟨rfl, b9⟩
              have hb9 := (hbel.trans (b8.mono hbel.size)).trans (b9.mono (by have := hbel.size; have := b8.size; omega))
              go_wp2_with fail
              go_roundw
              case measure => simp [intOf]; omega
              case rel => exact ⟨j + 1, by omega, by congr 1; omega, hb9⟩
            | true =>
              have hi12 : 1 ≤ id ∧ id ≤ S.n := by
                unfold RS.inn at hu
                simp only [Bool.and_eq_true, decide_eq_true_eq] at hu
                exact hu.1
              obtain ⟨i, rfl⟩ : ∃ i : Nat, id = i := ⟨id.toNat, by omega⟩
              have hn' : S.nowB i = true := by
                unfold RS.inn at hu
                simp only [Bool.and_eq_true, decide_eq_true_eq, Int.toNat_natCast] at hu
                exact hu.2
              have hb := HS.out.bod i (by omega) (by omega) (.inr hn')
              unfold pageF at hb
              have HI := hid (fun wx (hb : Below wr.heap.size wr wx) => in_any V S i wx (HR.out.keep (BQ.trans (hb.mono BQ.size))))
              rw [hu] at HI
              have HDn := HS.out.hD
              have R := pgread_any p D i wr hp (HTb.out.keep BQ) (HD.out.keep BQ) ((HS.out.uses i).trans hu) (by omega) (by omega)
              rw [hb] at R
              obtain ⟨bd, hbd⟩ : ∃ z, S.bod[i]? = some z := ⟨_, List.getElem?_eq_getElem (by rw [HS.out.sok.b]; omega)⟩
              rw [hbd] at R
              obtain ⟨ss, hss, hsl⟩ := HR.out.b
              rw [HV.out] at hss
              dsimp only at hss
              obtain ⟨b6, o6, x6, hA6, hb6, hx6, hc6⟩ := hss.1.at1 (k := i) (by omega)
              obtain ⟨s6, hs6, rfl⟩ : ∃ s6 : Sl, ss[i]? = some s6 ∧ x6 = s6.v := by
                rw [List.getElem?_map] at hx6
                cases h : ss[i]? with
                | none => rw [h] at hx6; cases hx6
                | some q => rw [h] at hx6; exact ⟨q, rfl, (Option.some.inj hx6).symm⟩
              have HL6 := hid (hsl.2 i s6 bd hs6 hbd)
              have ti : (i : Int) < (n1 : Int) := by have := HN1.out; omega
              have hll := HL6.out.len
              clear hidq hnx hu Hj hb hss hsl hx6 hs6 hbd hn' HDn
              subst hA6
              unfold Sl.v at hc6
              have hws := BQ.size
              go_wp2_with ((with_reducible refine is_load 37 ?_); refine wp_loadP w.heap.size p hp kQ1 rfl ?_; go_frame)
              refine R.mono ?_
              rintro e w8 ⟨A, n, c, rfl, hr8, b8⟩
              clear R x0 lq
              have kR2 := kQ2.keep b8
              have lr := kR2.lt
              go_wp2_with ((with_reducible refine is_load 60 ?_); refine wp_loadR (w.heap.size + 1) V kR2 rfl ?_; go_frame)
              refine (HI.out w8 b8).mono ?_
              rintro e w9 ⟨rfl, b9⟩
              have hb9 := (hbel.trans (b8.mono hbel.size)).trans (b9.mono (by have := hbel.size; have := b8.size; omega))
              have kS2 := kR2.keep b9
              have BS := (BQ.trans (b8.mono hws)).trans (b9.mono (by have := b8.size; omega))
              rw [HV.out] at kS2
              have x6 := kS2.c7.2.2.2.2.2.2
              unfold Sl.v at x6
              dsimp only at x6
              have lt := kS2.lt
              have c6 := (BS.cell (p := ⟨b6, o6 + i, none⟩) hb6).trans hc6
              have hz : b6 < w9.heap.size := by have := BS.size; omega
              go_wp2_with fail
              refine (equal_any _ _ _ _ _ _ bd bd _ (RL.below hr8 b9) (HL6.out.rb.below BS)).mono ?_
              rintro e w10 ⟨rfl, rfl⟩
              have hbb : (bd == bd) = true := beq_self_eq_true bd
              rw [hbb]
              go_wp2_with fail
              go_roundw
              case measure => simp [intOf]; omega
              case rel => exact ⟨j + 1, by omega, by congr 1; omega, hb9⟩
          · obtain rfl : j = S.n + 3 := by omega
            have t1 : ¬ ((S.n + 3 : Nat) : Int) - 1 ≤ (S.n : Int) + 1 := by omega
            go_wp2_with fail
            go_ret
            exact ⟨rfl, BQ⟩
end Go.Proofs.YtanglofabkbllaaDoor

