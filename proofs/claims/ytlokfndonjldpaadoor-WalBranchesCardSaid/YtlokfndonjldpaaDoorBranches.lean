/- The walk of WalBranches, every argument. Conditions: the table of remainders is laid; the acts read. -/
import Derived.Test.YtlokfndonjldpaaDoorAwake
import Derived.Test.YtlokfndonjldpaaDoorLawS
import Derived.Test.YtlokfndonjldpaaDoorRefRec
import Derived.Test.YtlokfndonjldpaaDoorIs
import Derived.Deep.QuietTactic
import Derived.BigQuiet
import Derived.Deep.Cut
import Derived.Deep.CutBlock
import Derived.Deep.DeepCutAuto
set_option linter.unusedSimpArgs false
set_option linter.unusedVariables false
namespace Go.Proofs.YtlokfndonjldpaaDoor
open Go.ChangeShapes Go.WideShapes Go.ChangeAt Go.RowKit

set_option maxRecDepth 100000 in
theorem open_two {H : Type} {enc : TypeId × Value → H} {W : World} {r : Reach} {b0 base : Nat} {sp : Nat → Bool} {held : Bool} {v : Value} {d : DataW H} {p : List MemPlace}
    (hv : Value.okWide Tryd.prog W r b0 63 v) (h : DataW.Trod enc Tryd.prog W base sp held 63 v d p) :
    ∃ y z : Ac, v = .agg (y.cs ++ z.cs).toArray ∧ y.ok ∧ z.ok := by
  simp only [Value.okWide, Tryd.underlying63] at hv
  obtain ⟨cs, rfl, h2, _⟩ := hv
  obtain ⟨l⟩ := cs
  have c8 : Tryd.prog.cellsOf 63 = 8 := by kernel_rfl
  have c4 : Tryd.prog.cellsOf 34 = 4 := by kernel_rfl
  rw [c8] at h2
  match l, h2 with
  | [q0, q1, q2, q3, q4, q5, q6, q7], _ =>
    obtain ⟨fuel, hf⟩ := h
    obtain ⟨xs, m, _, _, _, hlen, hel⟩ := DataW.trod_array Tryd.underlying63 (by simpa [Value.cells] using hf)
    rw [c4] at hel
    have e0 := hel 0 (by omega)
    have e1 := hel 1 (by omega)
    match xs, hlen with
    | [y0, y1], _ =>
      obtain ⟨y, hy, oy⟩ := act_el W m [q0, q1, q2, q3] y0 rfl (by simpa using e0)
      obtain ⟨z, hz, oz⟩ := act_el W m [q4, q5, q6, q7] y1 rfl (by simpa using e1)
      refine ⟨y, z, ?_, oy, oz⟩
      rw [← hy, ← hz]
      rfl
theorem Kept.ownN {w w' : World} {base size : Nat} {e : TypeId} {v : Value} {n : Nat} {xs : List Value} (hown : w.ownsRow base e size v n xs) (hr : w.grownBy w' v.ownBlock) (he : ¬ dkT e) : Kept w w' := by
  rcases hown.2 with ⟨rfl, _⟩ | ⟨g, cap, cur, rfl, _, hg, _⟩
  · exact ⟨fun _ _ _ _ h => h.grown hr (by intro h; cases h)⟩
  · exact Kept.grown hr (show Blk w g e cur.toList by unfold Blk; simpa using hg) he
theorem dkET : ElT Tryd.prog 66 38 DV.zero.v 5 40 :=
  ⟨Tryd.underlying66, info_parts (by kernel_rfl : (Tryd.prog.info? 38).map (fun i => (i.zero, i.size, i.bytes)) = some (some DV.zero.v, 5, 40)), rfl, by omega⟩
set_option maxRecDepth 100000 in
set_option maxHeartbeats 20000000 in
theorem branches_walk (n0 : Nat) (A : Option Addr) (n c : Nat) (X : List Ac) (y z : Ac) (w : World) (hT : Tab w) (hn0 : n0 < 256) (hX : X.length = n) (hr : RL w 4 A n (X.flatMap Ac.cs)) (hok : ∀ x ∈ X, x.ok) (hnc : n ≤ c) (hcm : c ≤ 9223372036854775807) (hy : y.ok) (hz : z.ok) :
    Calls Tryd.prog 4 #[.int .u8 n0, .slice A n c, .agg (y.cs ++ z.cs).toArray] w fun e w' => e = .returned (.bool true) ∧ Below w.heap.size w w' := by
  have HOK := hid hok
  have HX := hid hX
  have HTb := hid hT
  have HR := hid hr
  clear hok hX hT hr
  by_cases hn : n ≤ 20
  rotate_left
  · have t1 : ((n : Int) > 20) := by omega
    go_enter Tryd.func4, Tryd.ntmps4
    go_wp2_with fail
    have B0 : Below w.heap.size w (w.alloc (.cells (y.cs ++ z.cs).toArray 63)) := (Below.refl _ _).alloc (Nat.le_refl _) _
    refine (awake_any _ (HTb.out.keep B0)).mono ?_
    rintro e w1 ⟨rfl, b1⟩
    go_wp2_with fail
    go_ret
    exact ⟨rfl, B0.trans (b1.mono B0.size)⟩
  · have t1 : ¬ ((n : Int) > 20) := by omega
    go_enter Tryd.func4, Tryd.ntmps4
    go_wp2_with fail
    have kB := Blk.new w 63 (y.cs ++ z.cs)
    have hBB : Below w.heap.size w (w.alloc (.cells (y.cs ++ z.cs).toArray 63)) := (Below.refl _ _).alloc (Nat.le_refl _) _
    generalize w.alloc (.cells (y.cs ++ z.cs).toArray 63) = w1 at kB hBB ⊢
    refine (begin_any n0 w1 hn0 (HTb.out.keep hBB)).mono ?_
    have hS0 := Sv.begin_ (2 + n0 % 20) (by omega)
    have hq0 : 2 + n0 % 20 ≤ 21 := by omega
    generalize 2 + n0 % 20 = q at hS0 hq0 ⊢
    generalize created (Dk.new (q + 3)) 2 q = D0 at hS0 ⊢
    generalize hl0 : Lg.first 2 q = l0 at hS0 ⊢
    have he0 : Hid (l0.e = 1) := by rw [← hl0]; exact hid rfl
    clear hl0
    rintro e w4 ⟨d0, rfl, hd4, b4'⟩
    have b4 := hBB.trans (b4'.mono hBB.size)
    replace kB := kB.keep b4'
    have hGB : w.heap.size < w4.heap.size := kB.lt
    clear b4' hBB
    simp only [DV.v, Lg.v]
    go_wp2_with (first
      | ((with_reducible refine is_alloc 38 ?_); refine wp_allocB (w := w4) _ arrDisk ?_; intro w5 k5 b5 s5; go_frame)
      | ((with_reducible refine is_alloc 44 ?_); refine wp_allocN (w4.heap.size + 1) s5 _ arrLog ?_; intro w6 k6 b6 s6; go_frame)
      | ((with_reducible refine is_store 38 ?_); refine wp_storeB w4.heap.size _ _ d0.cs (k5.keep (by rw [s5]; exact b6)) diskN rfl (dv_one _) rfl rfl ?_; intro w7 k7 r7; go_frame)
      | ((with_reducible refine is_store 44 ?_); refine wp_storeB (w4.heap.size + 1) _ _ l0.cs (k6.grown r7 (by simp)) logN rfl (lg_one _) rfl rfl ?_; intro w8 k8 r8; go_frame))
    have b56 : Below w4.heap.size w4 w6 := b5.trans ((show Below w5.heap.size w5 w6 by rw [s5]; exact b6).mono b5.size)
    have hd8 := ((hd4.keep b56).kept (Kept.grown r7 (k5.keep (by rw [s5]; exact b6)) notDk)).kept (Kept.grown r8 (k6.grown r7 (by simp)) (by unfold dkT; decide))
    have K0 : Bx w8 w4.heap.size d0 D0 := ⟨k7.grown r8 (by simp), hd8⟩
    replace kB := ((kB.keep b56).grown r7 (by simp; omega)).grown r8 (by simp; omega)
    have C6 := b4.trans (b56.mono b4.size)
    have C7 := C6.grown r7 C6.size (fun z hz => by cases hz; exact b4.size)
    have C8 := C7.grown r8 C7.size (fun z hz => by cases hz; have := b4.size; omega)
    have hG : w.heap.size ≤ w4.heap.size := b4.size
    clear b4 b5 b6 b56 s5 s6 k5 k6 k7 r7 r8 hd4 hd8 C6 C7
    generalize w4.heap.size = G7 at *
    obtain ⟨G8, hG8⟩ : ∃ z, G7 + 1 = z := ⟨_, rfl⟩
    rw [hG8] at k8 ⊢
    have hG78 : w.heap.size ≤ G8 ∧ ¬ G7 = G8 ∧ ¬ G8 = G7 := ⟨by omega, by omega, by omega⟩
    have hGB2 : ¬ w.heap.size = G7 ∧ ¬ w.heap.size = G8 := ⟨by omega, by omega⟩
    clear hG8 w4 t1 hGB
    go_loopw [11, 12] (fun m i wr => ∃ (k : Nat) (d : DV) (D : Dk) (l : Lg) (rs : List (Nat × List UInt8)), k ≤ n ∧ i = .int .i64 k ∧ m = .int .i64 rs.length ∧ rs.length ≤ k ∧ Hid (l.e = 1) ∧ Blk wr w.heap.size 63 (y.cs ++ z.cs) ∧ Bx wr G7 d D ∧ Blk wr G8 44 l.cs ∧ Hid (∃ B m s G, Sv k q D l 1 rs B m s G) ∧ Below w.heap.size w wr) (fun _ i _ => n - (intOf i).toNat)
    case atStart => exact ⟨0, d0, D0, l0, [], Nat.zero_le _, rfl, rfl, Nat.le_refl _, he0, kB, K0, k8, hid ⟨_, _, _, _, hS0⟩, C8⟩
    case round =>
      obtain ⟨k, d, D, l, rs, hk, rfl, rfl, hrk, hle, kB', kd, kl, HS, hbel⟩ := hrel
      clear K0 k8 hS0 C8 he0 kB
      by_cases hlt : k < n
      · obtain ⟨b, off, x, rfl, hbb, hx, hcell⟩ := (HR.out.below hbel).el (f := Ac.cs) (fun _ => rfl) hlt (by omega)
        have C0 := hcell 0 _ rfl
        have C1 := hcell 1 _ rfl
        have C2 := hcell 2 _ rfl
        have C3 := hcell 3 _ rfl
        rw [Nat.add_zero] at C0
        have hxok := HOK.out x (List.mem_of_getElem? hx)
        clear hcell hx
        have HP : Hid (∀ w', Calls Tryd.prog 12 #[x.val] w' fun e w'' => ∃ g, e = .returned (.slice (some ⟨g, 0, none⟩) x.pay.length x.pay.length) ∧ RB w'' (some ⟨g, 0, none⟩) x.pay.length x.pay ∧ Below w'.heap.size w' w'') := hid fun w' => (payload_any x w' hxok).mono fun e w'' ⟨g, h1, h2, h3, h4⟩ => ⟨g, h1, h3.cells rfl, h4⟩
        have hpl : x.pay.length < 400 := by
          unfold Ac.pay
          rw [payB_len]
          omega
        clear hxok
        generalize hpay : x.pay = pay at *
        clear hpay
        obtain ⟨pl, hpl2⟩ : ∃ z, pay.length = z := ⟨_, rfl⟩
        have HPL := hid hpl2
        rw [hpl2] at HP hpl
        clear hpl2
        have t2 : (k : Int) < (n : Int) := by omega
        obtain ⟨B0, m0, s0, G0, hS⟩ := HS.out
        have hlok := hS.lok (by omega)
        have hinn := hS.inn
        have hwl := hS.wl
        go_wp2_with fail
        by_cases hfit : cnt pl ≤ l.left
        · have hS2 := hS.append (by omega) (p := pay) (by rw [HPL.out]; omega) (by rw [HPL.out]; exact hfit)
          rw [HPL.out] at hS2
          have HA : Hid (∀ w' A c, Below wr.heap.size wr w' → RB w' A pl pay → Calls Tryd.prog 21 #[l.v, d.v, .slice A pl c] w' fun e w'' => ∃ d' : DV, e = .returned (.tuple #[d'.v, (l.app pl).v, .int .i64 0]) ∧ DkV w'' d' (putSecs D l.at_ (recSecs (tagB l.e l.g l.nx) pay)) ∧ Below w'.heap.size w' w'') :=
            hid fun w' A c hb hp => append_good l d D A pl c pay w' (kd.d.keep hb) (HTb.out.keep (hbel.trans (hb.mono hbel.size))) hlok hp (by omega) hfit hinn (by omega)
          have hle2 : Hid ((l.app pl).e = 1) := hle
          generalize putSecs D l.at_ (recSecs (tagB l.e l.g l.nx) pay) = DN at *
          generalize l.app pl = l2 at *
          have HS2 := hid hS2
          clear hS hS2 hlok hinn hwl hfit HS
          have hG7 := kd.k.lt
          have hG8 := kl.lt
          refine wp_region_headF 184 14 [48, 49, 50, 51, 52, 53, 54, 55, 47, 56, 57, 58, 13, 14] [10, 11] ((fun kq => ([fun u w' => u = l.v, fun u w' => u = d.v, fun u w' => u = .slice (some ⟨b, off, none⟩) n c, fun u w' => u = .int .i64 k, fun u w' => u = .pointer (some ⟨b, off + k * 4, none⟩), fun u w' => u = x.val, fun u w' => ∃ (gp : Nat), u = .slice (some ⟨gp, 0, none⟩) pl pl ∧ RB w' (some ⟨gp, 0, none⟩) pl pay, fun u w' => ∃ (dx : DV), u = .tuple #[dx.v, l2.v, .int .i64 0] ∧ DkV w' dx DN, fun u w' => ∃ (dx : DV), u = .tuple #[dx.v, l2.v, .int .i64 0] ∧ DkV w' dx DN, fun u w' => ∃ (dx : DV), u = dx.v ∧ DkV w' dx DN, fun u w' => u = l2.v, fun u w' => u = .int .i64 0, fun u w' => ∃ (b13 : Nat), u = .pointer (some ⟨b13, 0, none⟩) ∧ wr.heap.size ≤ b13 ∧ Blk w' b13 38 DV.zero.cs, fun u w' => ∃ (b14 : Nat), u = .pointer (some ⟨b14, 0, none⟩) ∧ wr.heap.size ≤ b14 ∧ Blk w' b14 44 Lg.zero.cs] : List (Value → World → Prop)).getD kq (fun _ _ => True))) (by kernel_rfl) rfl (by kernel_rfl) ?grow ?step ?tail
          case step =>
            simp only [List.take_succ_cons, List.take_zero]
            refine HSteps.cons ?_ ?_
            · intro f w' hb hU
              obtain ⟨x0', x1', x2', x3', x4', x5'⟩ := (kl.keep hb).c6
              simp only [putAll, List.foldl_cons, List.foldl_nil]
              go_frame
              go_wp2_with fail
              exact ⟨rfl, _, rfl, Below.refl _ _, rfl⟩
            refine HSteps.cons ?_ ?_
            · intro f w' hb hU
              obtain ⟨x0', x1', x2', x3', x4'⟩ := (kd.k.keep hb).c5
              simp only [putAll, List.foldl_cons, List.foldl_nil]
              go_frame
              go_wp2_with fail
              exact ⟨rfl, _, rfl, Below.refl _ _, rfl⟩
            refine HSteps.cons ?_ ?_
            · intro f w' hb hU
              simp only [putAll, List.foldl_cons, List.foldl_nil]
              go_frame
              go_wp2_with fail
              exact ⟨rfl, _, rfl, Below.refl _ _, rfl⟩
            refine HSteps.cons ?_ ?_
            · intro f w' hb hU
              simp only [putAll, List.foldl_cons, List.foldl_nil]
              go_frame
              go_wp2_with fail
              exact ⟨rfl, _, rfl, Below.refl _ _, rfl⟩
            refine HSteps.cons ?_ ?_
            · intro f w' hb hU
              obtain u2 : f 50 = .slice (some ⟨b, off, none⟩) n c := hU.get ⟨2, .data⟩ (by simp) rfl
              obtain u3 : f 51 = .int .i64 k := hU.get ⟨3, .data⟩ (by simp) rfl
              simp only [putAll, List.foldl_cons, List.foldl_nil]
              go_frame
              try simp only [u2, u3]
              go_wp2_with fail
              exact ⟨rfl, _, rfl, Below.refl _ _, rfl⟩
            refine HSteps.cons ?_ ?_
            · intro f w' hb hU
              obtain u4 : f 52 = .pointer (some ⟨b, off + k * 4, none⟩) := hU.get ⟨4, .data⟩ (by simp) rfl
              have c0 := (hb.cell hbb).trans C0
              have c1 := (hb.cell hbb).trans C1
              have c2 := (hb.cell hbb).trans C2
              have c3 := (hb.cell hbb).trans C3
              simp only [putAll, List.foldl_cons, List.foldl_nil]
              go_frame
              try simp only [u4]
              go_wp2_with fail
              exact ⟨rfl, _, rfl, Below.refl _ _, rfl⟩
            refine HSteps.cons ?_ ?_
            · intro f w' hb hU
              obtain u5 : f 53 = x.val := hU.get ⟨5, .data⟩ (by simp) rfl
              have R := HP.out w'
              simp only [putAll, List.foldl_cons, List.foldl_nil]
              go_frame
              try simp only [u5]
              go_wp2_with fail
              refine (R).mono ?_
              rintro e w3 ⟨gp, rfl, hgp, b3⟩
              go_wp2_with fail
              exact ⟨rfl, _, rfl, b3, gp, rfl, hgp⟩
            refine HSteps.cons ?_ ?_
            · intro f w' hb hU
              obtain u0 : f 48 = l.v := hU.get ⟨0, .data⟩ (by simp) rfl
              obtain u1 : f 49 = d.v := hU.get ⟨1, .data⟩ (by simp) rfl
              obtain ⟨gp, u6, v6_0⟩ : ∃ (gp : Nat), f 54 = .slice (some ⟨gp, 0, none⟩) pl pl ∧ RB w' (some ⟨gp, 0, none⟩) pl pay := hU.get ⟨6, .data⟩ (by simp) rfl
              have R := HA.out w' (some ⟨gp, 0, none⟩) pl hb v6_0
              simp only [putAll, List.foldl_cons, List.foldl_nil]
              go_frame
              try simp only [u0, u1, u6]
              go_wp2_with fail
              refine (R).mono ?_
              rintro e w3 ⟨dx, rfl, hdx, b3⟩
              go_wp2_with fail
              exact ⟨rfl, _, rfl, b3, dx, rfl, hdx⟩
            refine HSteps.cons ?_ ?_
            · intro f w' hb hU
              obtain ⟨dx, u7, v7_0⟩ : ∃ (dx : DV), f 55 = .tuple #[dx.v, l2.v, .int .i64 0] ∧ DkV w' dx DN := hU.get ⟨7, .data⟩ (by simp) rfl
              simp only [putAll, List.foldl_cons, List.foldl_nil]
              go_frame
              try simp only [u7]
              go_wp2_with fail
              exact ⟨rfl, _, rfl, Below.refl _ _, dx, rfl, v7_0⟩
            refine HSteps.cons ?_ ?_
            · intro f w' hb hU
              obtain ⟨dx, u8, v8_0⟩ : ∃ (dx : DV), f 47 = .tuple #[dx.v, l2.v, .int .i64 0] ∧ DkV w' dx DN := hU.get ⟨8, .data⟩ (by simp) rfl
              simp only [putAll, List.foldl_cons, List.foldl_nil]
              go_frame
              try simp only [u8]
              go_wp2_with fail
              exact ⟨rfl, _, rfl, Below.refl _ _, dx, rfl, v8_0⟩
            refine HSteps.cons ?_ ?_
            · intro f w' hb hU
              obtain ⟨dx, u8, v8_0⟩ : ∃ (dx : DV), f 47 = .tuple #[dx.v, l2.v, .int .i64 0] ∧ DkV w' dx DN := hU.get ⟨8, .data⟩ (by simp) rfl
              simp only [putAll, List.foldl_cons, List.foldl_nil]
              go_frame
              try simp only [u8]
              go_wp2_with fail
              exact ⟨rfl, _, rfl, Below.refl _ _, rfl⟩
            refine HSteps.cons ?_ ?_
            · intro f w' hb hU
              obtain ⟨dx, u8, v8_0⟩ : ∃ (dx : DV), f 47 = .tuple #[dx.v, l2.v, .int .i64 0] ∧ DkV w' dx DN := hU.get ⟨8, .data⟩ (by simp) rfl
              simp only [putAll, List.foldl_cons, List.foldl_nil]
              go_frame
              try simp only [u8]
              go_wp2_with fail
              exact ⟨rfl, _, rfl, Below.refl _ _, rfl⟩
            refine HSteps.cons ?_ ?_
            · intro f w' hb hU
              have hP : Blk _ w'.heap.size 38 DV.zero.cs := Blk.new w' _ _
              have hb3 : Below w'.heap.size w' _ := (Below.refl _ _).alloc (Nat.le_refl _) (.cells (DV.zero.cs).toArray 38)
              simp only [putAll, List.foldl_cons, List.foldl_nil]
              go_frame
              go_wp2_with fail
              exact ⟨rfl, _, rfl, hb3, _, rfl, hb.size, hP⟩
            refine HSteps.cons ?_ ?_
            · intro f w' hb hU
              have hP : Blk _ w'.heap.size 44 Lg.zero.cs := Blk.new w' _ _
              have hb3 : Below w'.heap.size w' _ := (Below.refl _ _).alloc (Nat.le_refl _) (.cells (Lg.zero.cs).toArray 44)
              simp only [putAll, List.foldl_cons, List.foldl_nil]
              go_frame
              go_wp2_with fail
              exact ⟨rfl, _, rfl, hb3, _, rfl, hb.size, hP⟩
            exact HSteps.nil
          case grow =>
            intro kq u wa wb hb hu
            rcases kq with _ | _ | _ | _ | _ | _ | _ | _ | _ | _ | _ | _ | _ | _ | kq
            · exact hu
            · exact hu
            · exact hu
            · exact hu
            · exact hu
            · exact hu
            · obtain ⟨gp, ue, uf0⟩ := hu
              exact ⟨gp, ue, uf0.below hb⟩
            · obtain ⟨dx, ue, uf0⟩ := hu
              exact ⟨dx, ue, uf0.keep hb⟩
            · obtain ⟨dx, ue, uf0⟩ := hu
              exact ⟨dx, ue, uf0.keep hb⟩
            · obtain ⟨dx, ue, uf0⟩ := hu
              exact ⟨dx, ue, uf0.keep hb⟩
            · exact hu
            · exact hu
            · obtain ⟨b13, ue, uf0, uf1⟩ := hu
              exact ⟨b13, ue, uf0, uf1.keep hb⟩
            · obtain ⟨b14, ue, uf0, uf1⟩ := hu
              exact ⟨b14, ue, uf0, uf1.keep hb⟩
            · trivial
          case tail =>
            intro f w7 hb7 hU
            obtain ⟨dx, u9, v9_0⟩ : ∃ (dx : DV), f 56 = dx.v ∧ DkV w7 dx DN := hU.get 9 (by decide)
            obtain u10 : f 57 = l2.v := hU.get 10 (by decide)
            obtain u11 : f 58 = .int .i64 0 := hU.get 11 (by decide)
            obtain ⟨b13, u12, v12_0, v12_1⟩ : ∃ (b13 : Nat), f 13 = .pointer (some ⟨b13, 0, none⟩) ∧ wr.heap.size ≤ b13 ∧ Blk w7 b13 38 DV.zero.cs := hU.get 12 (by decide)
            obtain ⟨b14, u13, v13_0, v13_1⟩ : ∃ (b14 : Nat), f 14 = .pointer (some ⟨b14, 0, none⟩) ∧ wr.heap.size ≤ b14 ∧ Blk w7 b14 44 Lg.zero.cs := hU.get 13 (by decide)
            simp only [List.drop_succ_cons, List.drop_zero, putAll, List.foldl_cons, List.foldl_nil]
            go_frame
            simp only [u9, u10, u11, u12, u13]
            clear u9 u10 u11 u12 u13
            clear hU
            replace kd := kd.keep hb7
            replace kl := kl.keep hb7
            replace kB' := kB'.keep hb7
            have hGB' := kB'.lt
            replace hbel := hbel.trans (hb7.mono hbel.size)
            have hne : ¬ b13 = b14 := Blk.ne v12_1 v13_1 (by decide)
            clear hb7 C0 C1 C2 C3
            go_wp2_with (first
              | ((with_reducible refine is_store 38 ?_); refine wp_storeB b13 _ _ dx.cs v12_1 diskN rfl (dv_one _) rfl rfl ?_; intro w8 k8 r8; go_frame)
              | ((with_reducible refine is_store 44 ?_); refine wp_storeB b14 _ _ l2.cs (v13_1.grown r8 (by simpa using hne)) logN rfl (lg_one _) rfl rfl ?_; intro w9 k9 r9; go_frame))
            refine noPanic_ok ?_
            have n7 : ¬ G7 = b13 ∧ ¬ G7 = b14 ∧ ¬ G8 = b13 ∧ ¬ G8 = b14 := ⟨by omega, by omega, by omega, by omega⟩
            have kB9 := (kB'.grown r8 (by simp; omega)).grown r9 (by simp; omega)
            have kl9 := (kl.grown r8 (by simp; omega)).grown r9 (by simp; omega)
            have kd9 := (kd.k.grown r8 (by simp; omega)).grown r9 (by simp; omega)
            have k89 := k8.grown r9 (by simp; omega)
            have hd9 := (v9_0.kept (Kept.grown r8 v12_1 notDk)).kept (Kept.grown r9 (v13_1.grown r8 (by simpa using hne)) (by unfold dkT; decide))
            have C8 := hbel.grown r8 hbel.size (fun z hz => by cases hz; have := hbel.size; omega)
            have C9 := C8.grown r9 C8.size (fun z hz => by cases hz; have := hbel.size; omega)
            have m7 := kd9.lt
            have m8 := kl9.lt
            have m13 := k89.lt
            have m14 := k9.lt
            clear kB' kd kl hbel r8 r9 k8 v12_1 v13_1 v12_0 v13_0 v9_0 C8 hG7 hG8 hbb
            go_wp2_with fail
            obtain ⟨x0, x1, x2, x3, x4⟩ := k89.c5
            obtain ⟨z0, z1, z2, z3, z4, z5⟩ := k9.c6
            try dsimp only at z0 z1 z2 z3 z4 z5
            obtain ⟨y0, y1, y2, y3, y4⟩ := kd9.c5
            have f7 := kd9.fz
            obtain ⟨s7, g7⟩ := set5 kd9 rfl (.int .i64 dx.n) (.pointer dx.s) (.pointer dx.c) (.pointer dx.l) (.int .i64 dx.m)
            have kBs := k9.grown g7 (by simp; omega)
            have kls := kl9.grown g7 (by simp; omega)
            have f8 := kls.fz
            obtain ⟨b0, b1, b2, b3, b4, b5⟩ := kBs.c6
            try dsimp only at b0 b1 b2 b3 b4 b5
            obtain ⟨c0, c1, c2, c3, c4, c5⟩ := kls.c6
            try dsimp only at c0 c1 c2 c3 c4 c5
            go_region
            obtain ⟨s8, g8⟩ := set6 kls rfl (.int .i64 l2.from_) (.int .i64 l2.size) (.int .u64 l2.e) (.int .u64 l2.g) (.int .u64 l2.nx) (.int .i64 l2.at_)
            have hd10 := hd9.kept (Kept.grown g7 kd9 notDk)
            have hd11 := hd10.kept (Kept.grown g8 kls (by unfold dkT; decide))
            have C10 := C9.grown g7 C9.size (fun q hq => by cases hq; omega)
            have C11 := C10.grown g8 C10.size (fun q hq => by cases hq; omega)
            have kB12 := (kB9.grown g7 (by simp; omega)).grown g8 (by simp; omega)
            have s7' := s7.grown g8 (by simp; omega)
            clear x0 x1 x2 x3 x4 z0 z1 z2 z3 z4 z5 y0 y1 y2 y3 y4 b0 b1 b2 b3 b4 b5 c0 c1 c2 c3 c4 c5 f7 f8 s7 kBs kls hd9 hd10 C9 C10 g7 g8 kd9 kl9 k89 k9
            generalize World.setCell (World.setCell _ _ _) _ _ = w11 at kB12 s7' s8 hd11 C11 ⊢
            have Kd : Bx w11.drew G7 dx _ := ⟨s7', hd11.keep (Below.refl _ _).drew⟩
            have Kl : Blk w11.drew G8 44 l2.cs := s8
            replace kB12 : Blk w11.drew _ _ _ := kB12
            have hbel : Below w.heap.size w w11.drew := C11.drew
            clear s7' s8 hd11 C11
            generalize w11.drew = w12 at *
            go_wp2_with fail
            go_roundw
            case measure => simp [intOf]; omega
            case rel => exact ⟨k + 1, dx, DN, l2, rs ++ [(l.g, pay)], by omega, by go_num, by rw [List.length_append, List.length_singleton]; go_num, by rw [List.length_append, List.length_singleton]; omega, hle2, kB12, Kd, Kl, hid ⟨_, _, _, _, HS2.out⟩, hbel⟩
        · have HA : Hid (∀ w' A c, Calls Tryd.prog 21 #[l.v, d.v, .slice A pl c] w' fun e w'' => e = .returned (.tuple #[DV.zero.v, Lg.zero.v, .int .i64 11]) ∧ Below w'.heap.size w' w'') :=
            hid fun w' A c => append_full l d A pl c w' hlok (by omega) (by omega)
          clear hS hlok hinn hwl hfit
          have hG7 := kd.k.lt
          have hG8 := kl.lt
          refine wp_region_headF 184 14 [48, 49, 50, 51, 52, 53, 54, 55, 47, 56, 57, 58, 13, 14] [10, 11] ((fun kq => ([fun u w' => u = l.v, fun u w' => u = d.v, fun u w' => u = .slice (some ⟨b, off, none⟩) n c, fun u w' => u = .int .i64 k, fun u w' => u = .pointer (some ⟨b, off + k * 4, none⟩), fun u w' => u = x.val, fun u w' => ∃ (gp : Nat), u = .slice (some ⟨gp, 0, none⟩) pl pl ∧ RB w' (some ⟨gp, 0, none⟩) pl pay, fun u w' => u = .tuple #[DV.zero.v, Lg.zero.v, .int .i64 11], fun u w' => u = .tuple #[DV.zero.v, Lg.zero.v, .int .i64 11], fun u w' => u = DV.zero.v, fun u w' => u = Lg.zero.v, fun u w' => u = .int .i64 11, fun u w' => ∃ (b13 : Nat), u = .pointer (some ⟨b13, 0, none⟩) ∧ wr.heap.size ≤ b13 ∧ Blk w' b13 38 DV.zero.cs, fun u w' => ∃ (b14 : Nat), u = .pointer (some ⟨b14, 0, none⟩) ∧ wr.heap.size ≤ b14 ∧ Blk w' b14 44 Lg.zero.cs] : List (Value → World → Prop)).getD kq (fun _ _ => True))) (by kernel_rfl) rfl (by kernel_rfl) ?grow ?step ?tail
          case step =>
            simp only [List.take_succ_cons, List.take_zero]
            refine HSteps.cons ?_ ?_
            · intro f w' hb hU
              obtain ⟨x0', x1', x2', x3', x4', x5'⟩ := (kl.keep hb).c6
              simp only [putAll, List.foldl_cons, List.foldl_nil]
              go_frame
              go_wp2_with fail
              exact ⟨rfl, _, rfl, Below.refl _ _, rfl⟩
            refine HSteps.cons ?_ ?_
            · intro f w' hb hU
              obtain ⟨x0', x1', x2', x3', x4'⟩ := (kd.k.keep hb).c5
              simp only [putAll, List.foldl_cons, List.foldl_nil]
              go_frame
              go_wp2_with fail
              exact ⟨rfl, _, rfl, Below.refl _ _, rfl⟩
            refine HSteps.cons ?_ ?_
            · intro f w' hb hU
              simp only [putAll, List.foldl_cons, List.foldl_nil]
              go_frame
              go_wp2_with fail
              exact ⟨rfl, _, rfl, Below.refl _ _, rfl⟩
            refine HSteps.cons ?_ ?_
            · intro f w' hb hU
              simp only [putAll, List.foldl_cons, List.foldl_nil]
              go_frame
              go_wp2_with fail
              exact ⟨rfl, _, rfl, Below.refl _ _, rfl⟩
            refine HSteps.cons ?_ ?_
            · intro f w' hb hU
              obtain u2 : f 50 = .slice (some ⟨b, off, none⟩) n c := hU.get ⟨2, .data⟩ (by simp) rfl
              obtain u3 : f 51 = .int .i64 k := hU.get ⟨3, .data⟩ (by simp) rfl
              simp only [putAll, List.foldl_cons, List.foldl_nil]
              go_frame
              try simp only [u2, u3]
              go_wp2_with fail
              exact ⟨rfl, _, rfl, Below.refl _ _, rfl⟩
            refine HSteps.cons ?_ ?_
            · intro f w' hb hU
              obtain u4 : f 52 = .pointer (some ⟨b, off + k * 4, none⟩) := hU.get ⟨4, .data⟩ (by simp) rfl
              have c0 := (hb.cell hbb).trans C0
              have c1 := (hb.cell hbb).trans C1
              have c2 := (hb.cell hbb).trans C2
              have c3 := (hb.cell hbb).trans C3
              simp only [putAll, List.foldl_cons, List.foldl_nil]
              go_frame
              try simp only [u4]
              go_wp2_with fail
              exact ⟨rfl, _, rfl, Below.refl _ _, rfl⟩
            refine HSteps.cons ?_ ?_
            · intro f w' hb hU
              obtain u5 : f 53 = x.val := hU.get ⟨5, .data⟩ (by simp) rfl
              have R := HP.out w'
              simp only [putAll, List.foldl_cons, List.foldl_nil]
              go_frame
              try simp only [u5]
              go_wp2_with fail
              refine (R).mono ?_
              rintro e w3 ⟨gp, rfl, hgp, b3⟩
              go_wp2_with fail
              exact ⟨rfl, _, rfl, b3, gp, rfl, hgp⟩
            refine HSteps.cons ?_ ?_
            · intro f w' hb hU
              obtain u0 : f 48 = l.v := hU.get ⟨0, .data⟩ (by simp) rfl
              obtain u1 : f 49 = d.v := hU.get ⟨1, .data⟩ (by simp) rfl
              obtain ⟨gp, u6, v6_0⟩ : ∃ (gp : Nat), f 54 = .slice (some ⟨gp, 0, none⟩) pl pl ∧ RB w' (some ⟨gp, 0, none⟩) pl pay := hU.get ⟨6, .data⟩ (by simp) rfl
              have R := HA.out w' (some ⟨gp, 0, none⟩) pl
              simp only [putAll, List.foldl_cons, List.foldl_nil]
              go_frame
              try simp only [u0, u1, u6]
              go_wp2_with fail
              refine (R).mono ?_
              rintro e w3 ⟨rfl, b3⟩
              go_wp2_with fail
              exact ⟨rfl, _, rfl, b3, rfl⟩
            refine HSteps.cons ?_ ?_
            · intro f w' hb hU
              obtain u7 : f 55 = .tuple #[DV.zero.v, Lg.zero.v, .int .i64 11] := hU.get ⟨7, .data⟩ (by simp) rfl
              simp only [putAll, List.foldl_cons, List.foldl_nil]
              go_frame
              try simp only [u7]
              go_wp2_with fail
              exact ⟨rfl, _, rfl, Below.refl _ _, rfl⟩
            refine HSteps.cons ?_ ?_
            · intro f w' hb hU
              obtain u8 : f 47 = .tuple #[DV.zero.v, Lg.zero.v, .int .i64 11] := hU.get ⟨8, .data⟩ (by simp) rfl
              simp only [putAll, List.foldl_cons, List.foldl_nil]
              go_frame
              try simp only [u8]
              go_wp2_with fail
              exact ⟨rfl, _, rfl, Below.refl _ _, rfl⟩
            refine HSteps.cons ?_ ?_
            · intro f w' hb hU
              obtain u8 : f 47 = .tuple #[DV.zero.v, Lg.zero.v, .int .i64 11] := hU.get ⟨8, .data⟩ (by simp) rfl
              simp only [putAll, List.foldl_cons, List.foldl_nil]
              go_frame
              try simp only [u8]
              go_wp2_with fail
              exact ⟨rfl, _, rfl, Below.refl _ _, rfl⟩
            refine HSteps.cons ?_ ?_
            · intro f w' hb hU
              obtain u8 : f 47 = .tuple #[DV.zero.v, Lg.zero.v, .int .i64 11] := hU.get ⟨8, .data⟩ (by simp) rfl
              simp only [putAll, List.foldl_cons, List.foldl_nil]
              go_frame
              try simp only [u8]
              go_wp2_with fail
              exact ⟨rfl, _, rfl, Below.refl _ _, rfl⟩
            refine HSteps.cons ?_ ?_
            · intro f w' hb hU
              have hP : Blk _ w'.heap.size 38 DV.zero.cs := Blk.new w' _ _
              have hb3 : Below w'.heap.size w' _ := (Below.refl _ _).alloc (Nat.le_refl _) (.cells (DV.zero.cs).toArray 38)
              simp only [putAll, List.foldl_cons, List.foldl_nil]
              go_frame
              go_wp2_with fail
              exact ⟨rfl, _, rfl, hb3, _, rfl, hb.size, hP⟩
            refine HSteps.cons ?_ ?_
            · intro f w' hb hU
              have hP : Blk _ w'.heap.size 44 Lg.zero.cs := Blk.new w' _ _
              have hb3 : Below w'.heap.size w' _ := (Below.refl _ _).alloc (Nat.le_refl _) (.cells (Lg.zero.cs).toArray 44)
              simp only [putAll, List.foldl_cons, List.foldl_nil]
              go_frame
              go_wp2_with fail
              exact ⟨rfl, _, rfl, hb3, _, rfl, hb.size, hP⟩
            exact HSteps.nil
          case grow =>
            intro kq u wa wb hb hu
            rcases kq with _ | _ | _ | _ | _ | _ | _ | _ | _ | _ | _ | _ | _ | _ | kq
            · exact hu
            · exact hu
            · exact hu
            · exact hu
            · exact hu
            · exact hu
            · obtain ⟨gp, ue, uf0⟩ := hu
              exact ⟨gp, ue, uf0.below hb⟩
            · exact hu
            · exact hu
            · exact hu
            · exact hu
            · exact hu
            · obtain ⟨b13, ue, uf0, uf1⟩ := hu
              exact ⟨b13, ue, uf0, uf1.keep hb⟩
            · obtain ⟨b14, ue, uf0, uf1⟩ := hu
              exact ⟨b14, ue, uf0, uf1.keep hb⟩
            · trivial
          case tail =>
            intro f w7 hb7 hU
            obtain u9 : f 56 = DV.zero.v := hU.get 9 (by decide)
            obtain u10 : f 57 = Lg.zero.v := hU.get 10 (by decide)
            obtain u11 : f 58 = .int .i64 11 := hU.get 11 (by decide)
            obtain ⟨b13, u12, v12_0, v12_1⟩ : ∃ (b13 : Nat), f 13 = .pointer (some ⟨b13, 0, none⟩) ∧ wr.heap.size ≤ b13 ∧ Blk w7 b13 38 DV.zero.cs := hU.get 12 (by decide)
            obtain ⟨b14, u13, v13_0, v13_1⟩ : ∃ (b14 : Nat), f 14 = .pointer (some ⟨b14, 0, none⟩) ∧ wr.heap.size ≤ b14 ∧ Blk w7 b14 44 Lg.zero.cs := hU.get 13 (by decide)
            simp only [List.drop_succ_cons, List.drop_zero, putAll, List.foldl_cons, List.foldl_nil]
            go_frame
            simp only [u9, u10, u11, u12, u13]
            clear u9 u10 u11 u12 u13
            clear hU
            replace kd := kd.keep hb7
            replace kl := kl.keep hb7
            replace kB' := kB'.keep hb7
            have hGB' := kB'.lt
            replace hbel := hbel.trans (hb7.mono hbel.size)
            have hne : ¬ b13 = b14 := Blk.ne v12_1 v13_1 (by decide)
            clear hb7 C0 C1 C2 C3
            go_wp2_with (first
              | ((with_reducible refine is_store 38 ?_); refine wp_storeB b13 _ _ DV.zero.cs v12_1 diskN rfl (dv_one _) rfl rfl ?_; intro w8 k8 r8; go_frame)
              | ((with_reducible refine is_store 44 ?_); refine wp_storeB b14 _ _ Lg.zero.cs (v13_1.grown r8 (by simpa using hne)) logN rfl (lg_one _) rfl rfl ?_; intro w9 k9 r9; go_frame))
            refine noPanic_ok ?_
            have kB9 := (kB'.grown r8 (by simp; omega)).grown r9 (by simp; omega)
            have kl9 := (kl.grown r8 (by simp; omega)).grown r9 (by simp; omega)
            have kd9 : Bx w9 G7 d D := ⟨(kd.k.grown r8 (by simp; omega)).grown r9 (by simp; omega), (kd.d.kept (Kept.grown r8 v12_1 notDk)).kept (Kept.grown r9 (v13_1.grown r8 (by simpa using hne)) (by unfold dkT; decide))⟩
            have C8 := hbel.grown r8 hbel.size (fun z hz => by cases hz; have := hbel.size; omega)
            have C9 := C8.grown r9 C8.size (fun z hz => by cases hz; have := hbel.size; omega)
            clear kB' kd kl hbel r8 r9 k8 k9 v12_1 v13_1 v12_0 v13_0 C8 hG7 hG8 hbb
            go_wp2_with fail
            go_roundw
            case measure => simp [intOf]; omega
            case rel => exact ⟨k + 1, d, D, l, rs, by omega, by go_num, rfl, by omega, hle, kB9, kd9, kl9, hid (by obtain ⟨B, m, s, G, h⟩ := HS.out; exact ⟨B, m, s, G, h.next (by omega)⟩), C9⟩
      · obtain rfl : k = n := by omega
        obtain ⟨v9, hv9⟩ : ∃ z, z = wr := ⟨_, rfl⟩
        subst hv9
        obtain ⟨B0, m0, s0, G0, hS⟩ := HS.out
        have hlok := hS.lok (by omega)
        have hinn := hS.inn
        have hwl := hS.wl
        have hk2 := hS.k2
        have hnn := hS.n
        obtain ⟨lsf, hls⟩ : ∃ f : Nat → Ac, f = fun i => if i = 0 then y else z := ⟨_, rfl⟩
        have HOKs : Hid (∀ i, (lsf i).ok) := hid fun i => by rw [hls]; dsimp only; split; exact hy; exact hz
        have HPay : Hid (∀ i w', Calls Tryd.prog 12 #[(lsf i).val] w' fun e w'' => ∃ g, e = .returned (.slice (some ⟨g, 0, none⟩) (lsf i).pay.length (lsf i).pay.length) ∧ RB w'' (some ⟨g, 0, none⟩) (lsf i).pay.length (lsf i).pay ∧ Below w'.heap.size w' w'') := hid fun i w' => (payload_any (lsf i) w' (HOKs.out i)).mono fun e w'' ⟨g, h1, h2, h3, h4⟩ => ⟨g, h1, h3.cells rfl, h4⟩
        have HPL : Hid (∀ i, (lsf i).pay.length < 400) := hid fun i => by unfold Ac.pay; rw [payB_len]; omega
        have HC : Hid (∀ i, i < 2 → (y.cs ++ z.cs)[i * 4]? = some (.int .u8 (lsf i).kd) ∧ (y.cs ++ z.cs)[i * 4 + 1]? = some (.int .u16 (lsf i).n) ∧ (y.cs ++ z.cs)[i * 4 + 2]? = some (.int .u8 (lsf i).v) ∧ (y.cs ++ z.cs)[i * 4 + 3]? = some (.int .u64 (lsf i).ch)) := hid fun i hi => by
          obtain rfl | rfl : i = 0 ∨ i = 1 := by omega
          · rw [hls]; exact ⟨rfl, rfl, rfl, rfl⟩
          · rw [hls]; exact ⟨rfl, rfl, rfl, rfl⟩
        clear hls
        have HAg : Hid (∀ i w' A c, cnt (lsf i).pay.length ≤ l.left → Below v9.heap.size v9 w' → RB w' A (lsf i).pay.length (lsf i).pay → Calls Tryd.prog 21 #[l.v, d.v, .slice A (lsf i).pay.length c] w' fun e w'' => ∃ d' : DV, e = .returned (.tuple #[d'.v, (l.app (lsf i).pay.length).v, .int .i64 0]) ∧ DkV w'' d' (putSecs D l.at_ (recSecs (tagB l.e l.g l.nx) (lsf i).pay)) ∧ Below w'.heap.size w' w'') :=
          hid fun i w' A c hf hb hp => append_good l d D A _ c _ w' (kd.d.keep hb) (HTb.out.keep (hbel.trans (hb.mono hbel.size))) hlok hp (by have := HPL.out i; omega) hf hinn (by omega)
        have HAf : Hid (∀ i w' A c, l.left < cnt (lsf i).pay.length → Calls Tryd.prog 21 #[l.v, d.v, .slice A (lsf i).pay.length c] w' fun e w'' => e = .returned (.tuple #[DV.zero.v, Lg.zero.v, .int .i64 11]) ∧ Below w'.heap.size w' w'') :=
          hid fun i w' A c hf => append_full l d A _ c w' hlok (by have := HPL.out i; omega) hf
        have HOf : Hid (∀ i, cnt (lsf i).pay.length ≤ l.left → ∃ l', wopen (putSecs D l.at_ (recSecs (tagB l.e l.g l.nx) (lsf i).pay)).cur 2 q = some (l', rs.map (·.2) ++ [(lsf i).pay]) ∧ hdrF ((putSecs D l.at_ (recSecs (tagB l.e l.g l.nx) (lsf i).pay)).cur 2) = 1 ∧ l'.nx = (l.nx + 1) % 18446744073709551616 ∧ (putSecs D l.at_ (recSecs (tagB l.e l.g l.nx) (lsf i).pay)).n = q + 3) := hid fun i hf => by
          have h1 := hS.append (by omega) (p := (lsf i).pay) (by have := HPL.out i; omega) hf
          obtain ⟨g, h2, h3, _⟩ := h1.open_ (by omega)
          exact ⟨_, by rw [h2, List.map_append]; rfl, h3, rfl, h1.n⟩
        have HO0 : Hid (∃ l' : Lg, wopen D.cur 2 q = some (l', rs.map (·.2)) ∧ hdrF (D.cur 2) = 1 ∧ l'.nx = l.nx ∧ l'.left = l.left ∧ l'.ok) := by
          obtain ⟨g, h2, h3, h4⟩ := hS.open_ (by omega)
          exact hid ⟨_, h2, h3, rfl, rfl, h4.lok (by omega)⟩
        have HRm : Hid (∀ i, (cnt (lsf i).pay.length ≤ l.left → ¬ ((lsf i).pay.length : Int) > l.room) ∧ (l.left < cnt (lsf i).pay.length → ((lsf i).pay.length : Int) > l.room)) := hid fun i => by
          have h1 := HPL.out i
          unfold Lg.room cnt
          constructor
          · intro h; split <;> omega
          · intro h; split <;> omega
        have HRo := hid (fun w' => room_any l w' hlok)
        have HNx := hid (fun w' => next_any l w')
        have HNx2 := hid (fun w' (i : Nat) => next_any (l.app i) w')
        have hrs : rs.length ≤ 20 := by omega
        have hlk := hid hlok
        clear hS hlok hinn HS
        generalize l.room = rm at *
        obtain ⟨DNf, hDNf⟩ : ∃ f : Nat → Dk, f = fun i => putSecs D l.at_ (recSecs (tagB l.e l.g l.nx) (lsf i).pay) := ⟨_, rfl⟩
        have hD2 : ∀ i, putSecs D l.at_ (recSecs (tagB l.e l.g l.nx) (lsf i).pay) = DNf i := fun i => by rw [hDNf]
        simp only [hD2] at HAg HOf
        clear hDNf hD2
        go_wp2_with fail
        go_loopw [16, 17] (fun v i wq => ∃ (j : Nat) (ds : List DV), j ≤ 2 ∧ i = .int .i64 j ∧ ds.length = j ∧ wq.ownsRow v9.heap.size 38 5 v j (ds.flatMap DV.cs) ∧ Hid (∀ t d, ds[t]? = some d → DkV wq d (DNf t)) ∧ Hid (∀ t, t < j → cnt (lsf t).pay.length ≤ l.left) ∧ Below v9.heap.size v9 wq) (fun _ i _ => 2 - (intOf i).toNat)
        case atStart => exact ⟨0, [], by omega, rfl, rfl, World.ownsRow_nil _ _ _ _, hid (fun t d h => by simp at h), hid (fun t h => absurd h (by omega)), Below.refl _ _⟩
        case round =>
          obtain ⟨j, ds, hj, rfl, hdl, hown, HDS, HFT, hbq⟩ := hrel
          have kB2 := kB'.keep hbq
          have kd2 := kd.keep hbq
          have kl2 := kl.keep hbq
          have C2 := hbel.trans (hbq.mono hbel.size)
          by_cases hlt : j < 2
          · obtain ⟨c0, c1, c2, c3⟩ := HC.out j hlt
            have C0 := (kB2.cell (j * 4)).trans c0
            have C1 := (kB2.cell (j * 4 + 1)).trans c1
            have C2' := (kB2.cell (j * 4 + 2)).trans c2
            have C3 := (kB2.cell (j * 4 + 3)).trans c3
            have HPj := hid (HPay.out j)
            have HPLj := HPL.out j
            have HAgj := hid (HAg.out j)
            have HAfj := hid (HAf.out j)
            have HOj := HOKs.out j
            have HRmj := HRm.out j
            generalize hxj : lsf j = x at C0 C1 C2' C3 HPj HPLj HAgj HAfj HOj HRmj
            have HXJ := hid hxj
            clear hxj c0 c1 c2 c3 HOj
            generalize hpay : x.pay = pay at *
            have HPAY := hid hpay
            clear hpay
            obtain ⟨pl, hpl2⟩ : ∃ z, pay.length = z := ⟨_, rfl⟩
            have HPLN := hid hpl2
            rw [hpl2] at HPj HPLj HAgj HAfj HRmj
            clear hpl2
            have t2 : (j : Int) < 2 := by omega
            have hbb : w.heap.size < wr.heap.size := kB2.lt
            have hG7 := kd2.k.lt
            have hG8 := kl2.lt
            have HP := HPj
            go_wp2_with fail
            by_cases hfit : cnt pl ≤ l.left
            · obtain ⟨DN, hDN⟩ : ∃ z, DNf j = z := ⟨_, rfl⟩
              have HDN := hid hDN
              have HA : Hid (∀ w' A c, Below wr.heap.size wr w' → RB w' A pl pay → Calls Tryd.prog 21 #[l.v, d.v, .slice A pl c] w' fun e w'' => ∃ d' : DV, e = .returned (.tuple #[d'.v, (l.app pl).v, .int .i64 0]) ∧ DkV w'' d' DN ∧ Below w'.heap.size w' w'') :=
                hid fun w' A c hb hp => by rw [← hDN]; exact HAgj.out w' A c hfit (hbq.trans (hb.mono hbq.size)) hp
              have HN2 := hid (fun w' => HNx2.out w' pl)
              have HL2 : Hid ((l.app pl).nx = (l.nx + 1) % 18446744073709551616) := hid rfl
              generalize l.app pl = l2 at HA HN2 HL2
              have hnr := HRmj.1 hfit
              clear HPj HAgj HAfj HRmj hDN
              have hlen16 := hown.1
              refine wp_region_headF 184 13 [70, 71, 72, 73, 74, 75, 76, 69, 77, 78, 79, 18, 19] [9, 10] ((fun kq => ([fun u w' => u = l.v, fun u w' => u = d.v, fun u w' => u = .int .i64 j, fun u w' => u = .pointer (some ⟨w.heap.size, j * 4, none⟩), fun u w' => u = x.val, fun u w' => ∃ (gp : Nat), u = .slice (some ⟨gp, 0, none⟩) pl pl ∧ RB w' (some ⟨gp, 0, none⟩) pl pay, fun u w' => ∃ (dx : DV), u = .tuple #[dx.v, l2.v, .int .i64 0] ∧ DkV w' dx DN, fun u w' => ∃ (dx : DV), u = .tuple #[dx.v, l2.v, .int .i64 0] ∧ DkV w' dx DN, fun u w' => ∃ (dx : DV), u = dx.v ∧ DkV w' dx DN, fun u w' => u = l2.v, fun u w' => u = .int .i64 0, fun u w' => ∃ (b18 : Nat), u = .pointer (some ⟨b18, 0, none⟩) ∧ wr.heap.size ≤ b18 ∧ Blk w' b18 38 DV.zero.cs, fun u w' => ∃ (b19 : Nat), u = .pointer (some ⟨b19, 0, none⟩) ∧ wr.heap.size ≤ b19 ∧ Blk w' b19 44 Lg.zero.cs] : List (Value → World → Prop)).getD kq (fun _ _ => True))) (by kernel_rfl) rfl (by kernel_rfl) ?grow ?step ?tail
              case step =>
                simp only [List.take_succ_cons, List.take_zero]
                refine HSteps.cons ?_ ?_
                · intro f w' hb hU
                  obtain ⟨x0', x1', x2', x3', x4', x5'⟩ := (kl2.keep hb).c6
                  simp only [putAll, List.foldl_cons, List.foldl_nil]
                  go_frame
                  go_wp2_with fail
                  exact ⟨rfl, _, rfl, Below.refl _ _, rfl⟩
                refine HSteps.cons ?_ ?_
                · intro f w' hb hU
                  obtain ⟨x0', x1', x2', x3', x4'⟩ := (kd2.k.keep hb).c5
                  simp only [putAll, List.foldl_cons, List.foldl_nil]
                  go_frame
                  go_wp2_with fail
                  exact ⟨rfl, _, rfl, Below.refl _ _, rfl⟩
                refine HSteps.cons ?_ ?_
                · intro f w' hb hU
                  simp only [putAll, List.foldl_cons, List.foldl_nil]
                  go_frame
                  go_wp2_with fail
                  exact ⟨rfl, _, rfl, Below.refl _ _, rfl⟩
                refine HSteps.cons ?_ ?_
                · intro f w' hb hU
                  obtain u2 : f 72 = .int .i64 j := hU.get ⟨2, .data⟩ (by simp) rfl
                  simp only [putAll, List.foldl_cons, List.foldl_nil]
                  go_frame
                  try simp only [u2]
                  go_wp2_with fail
                  exact ⟨rfl, _, rfl, Below.refl _ _, rfl⟩
                refine HSteps.cons ?_ ?_
                · intro f w' hb hU
                  obtain u3 : f 73 = .pointer (some ⟨w.heap.size, j * 4, none⟩) := hU.get ⟨3, .data⟩ (by simp) rfl
                  have c0 := (hb.cell hbb).trans C0
                  have c1 := (hb.cell hbb).trans C1
                  have c2 := (hb.cell hbb).trans C2'
                  have c3 := (hb.cell hbb).trans C3
                  simp only [putAll, List.foldl_cons, List.foldl_nil]
                  go_frame
                  try simp only [u3]
                  go_wp2_with fail
                  exact ⟨rfl, _, rfl, Below.refl _ _, rfl⟩
                refine HSteps.cons ?_ ?_
                · intro f w' hb hU
                  obtain u4 : f 74 = x.val := hU.get ⟨4, .data⟩ (by simp) rfl
                  have R := HP.out w'
                  simp only [putAll, List.foldl_cons, List.foldl_nil]
                  go_frame
                  try simp only [u4]
                  go_wp2_with fail
                  refine (R).mono ?_
                  rintro e w3 ⟨gp, rfl, hgp, b3⟩
                  go_wp2_with fail
                  exact ⟨rfl, _, rfl, b3, gp, rfl, hgp⟩
                refine HSteps.cons ?_ ?_
                · intro f w' hb hU
                  obtain u0 : f 70 = l.v := hU.get ⟨0, .data⟩ (by simp) rfl
                  obtain u1 : f 71 = d.v := hU.get ⟨1, .data⟩ (by simp) rfl
                  obtain ⟨gp, u5, v5_0⟩ : ∃ (gp : Nat), f 75 = .slice (some ⟨gp, 0, none⟩) pl pl ∧ RB w' (some ⟨gp, 0, none⟩) pl pay := hU.get ⟨5, .data⟩ (by simp) rfl
                  have R := HA.out w' (some ⟨gp, 0, none⟩) pl hb v5_0
                  simp only [putAll, List.foldl_cons, List.foldl_nil]
                  go_frame
                  try simp only [u0, u1, u5]
                  go_wp2_with fail
                  refine (R).mono ?_
                  rintro e w3 ⟨dx, rfl, hdx, b3⟩
                  go_wp2_with fail
                  exact ⟨rfl, _, rfl, b3, dx, rfl, hdx⟩
                refine HSteps.cons ?_ ?_
                · intro f w' hb hU
                  obtain ⟨dx, u6, v6_0⟩ : ∃ (dx : DV), f 76 = .tuple #[dx.v, l2.v, .int .i64 0] ∧ DkV w' dx DN := hU.get ⟨6, .data⟩ (by simp) rfl
                  simp only [putAll, List.foldl_cons, List.foldl_nil]
                  go_frame
                  try simp only [u6]
                  go_wp2_with fail
                  exact ⟨rfl, _, rfl, Below.refl _ _, dx, rfl, v6_0⟩
                refine HSteps.cons ?_ ?_
                · intro f w' hb hU
                  obtain ⟨dx, u7, v7_0⟩ : ∃ (dx : DV), f 69 = .tuple #[dx.v, l2.v, .int .i64 0] ∧ DkV w' dx DN := hU.get ⟨7, .data⟩ (by simp) rfl
                  simp only [putAll, List.foldl_cons, List.foldl_nil]
                  go_frame
                  try simp only [u7]
                  go_wp2_with fail
                  exact ⟨rfl, _, rfl, Below.refl _ _, dx, rfl, v7_0⟩
                refine HSteps.cons ?_ ?_
                · intro f w' hb hU
                  obtain ⟨dx, u7, v7_0⟩ : ∃ (dx : DV), f 69 = .tuple #[dx.v, l2.v, .int .i64 0] ∧ DkV w' dx DN := hU.get ⟨7, .data⟩ (by simp) rfl
                  simp only [putAll, List.foldl_cons, List.foldl_nil]
                  go_frame
                  try simp only [u7]
                  go_wp2_with fail
                  exact ⟨rfl, _, rfl, Below.refl _ _, rfl⟩
                refine HSteps.cons ?_ ?_
                · intro f w' hb hU
                  obtain ⟨dx, u7, v7_0⟩ : ∃ (dx : DV), f 69 = .tuple #[dx.v, l2.v, .int .i64 0] ∧ DkV w' dx DN := hU.get ⟨7, .data⟩ (by simp) rfl
                  simp only [putAll, List.foldl_cons, List.foldl_nil]
                  go_frame
                  try simp only [u7]
                  go_wp2_with fail
                  exact ⟨rfl, _, rfl, Below.refl _ _, rfl⟩
                refine HSteps.cons ?_ ?_
                · intro f w' hb hU
                  have hP : Blk _ w'.heap.size 38 DV.zero.cs := Blk.new w' _ _
                  have hb3 : Below w'.heap.size w' _ := (Below.refl _ _).alloc (Nat.le_refl _) (.cells (DV.zero.cs).toArray 38)
                  simp only [putAll, List.foldl_cons, List.foldl_nil]
                  go_frame
                  go_wp2_with fail
                  exact ⟨rfl, _, rfl, hb3, _, rfl, hb.size, hP⟩
                refine HSteps.cons ?_ ?_
                · intro f w' hb hU
                  have hP : Blk _ w'.heap.size 44 Lg.zero.cs := Blk.new w' _ _
                  have hb3 : Below w'.heap.size w' _ := (Below.refl _ _).alloc (Nat.le_refl _) (.cells (Lg.zero.cs).toArray 44)
                  simp only [putAll, List.foldl_cons, List.foldl_nil]
                  go_frame
                  go_wp2_with fail
                  exact ⟨rfl, _, rfl, hb3, _, rfl, hb.size, hP⟩
                exact HSteps.nil
              case grow =>
                intro kq u wa wb hb hu
                rcases kq with _ | _ | _ | _ | _ | _ | _ | _ | _ | _ | _ | _ | _ | kq
                · exact hu
                · exact hu
                · exact hu
                · exact hu
                · exact hu
                · obtain ⟨gp, ue, uf0⟩ := hu
                  exact ⟨gp, ue, uf0.below hb⟩
                · obtain ⟨dx, ue, uf0⟩ := hu
                  exact ⟨dx, ue, uf0.keep hb⟩
                · obtain ⟨dx, ue, uf0⟩ := hu
                  exact ⟨dx, ue, uf0.keep hb⟩
                · obtain ⟨dx, ue, uf0⟩ := hu
                  exact ⟨dx, ue, uf0.keep hb⟩
                · exact hu
                · exact hu
                · obtain ⟨b18, ue, uf0, uf1⟩ := hu
                  exact ⟨b18, ue, uf0, uf1.keep hb⟩
                · obtain ⟨b19, ue, uf0, uf1⟩ := hu
                  exact ⟨b19, ue, uf0, uf1.keep hb⟩
                · trivial
              case tail =>
                intro f w7 hb7 hU
                obtain ⟨dx, u8, v8_0⟩ : ∃ (dx : DV), f 77 = dx.v ∧ DkV w7 dx DN := hU.get 8 (by decide)
                obtain u9 : f 78 = l2.v := hU.get 9 (by decide)
                obtain u10 : f 79 = .int .i64 0 := hU.get 10 (by decide)
                obtain ⟨b18, u11, v11_0, v11_1⟩ : ∃ (b18 : Nat), f 18 = .pointer (some ⟨b18, 0, none⟩) ∧ wr.heap.size ≤ b18 ∧ Blk w7 b18 38 DV.zero.cs := hU.get 11 (by decide)
                obtain ⟨b19, u12, v12_0, v12_1⟩ : ∃ (b19 : Nat), f 19 = .pointer (some ⟨b19, 0, none⟩) ∧ wr.heap.size ≤ b19 ∧ Blk w7 b19 44 Lg.zero.cs := hU.get 12 (by decide)
                simp only [List.drop_succ_cons, List.drop_zero, putAll, List.foldl_cons, List.foldl_nil]
                go_frame
                simp only [u8, u9, u10, u11, u12]
                clear u8 u9 u10 u11 u12
                clear hU
                have hown0 := fun g hg => hown.lt g hg
                have hwz0 := hbq.size
                have hwq := C2.size
                replace kl2 := kl2.keep hb7
                replace kB2 := kB2.keep hb7
                replace hbq := hbq.trans (hb7.mono hbq.size)
                replace C2 := C2.trans (hb7.mono C2.size)
                replace hown := own_below hown hb7
                replace C0 := (hb7.cell hbb).trans C0
                replace C1 := (hb7.cell hbb).trans C1
                replace C2' := (hb7.cell hbb).trans C2'
                replace C3 := (hb7.cell hbb).trans C3
                have HDS7 : Hid (∀ t d, ds[t]? = some d → DkV w7 d (DNf t)) := hid fun t d h => (HDS.out t d h).keep hb7
                have hne : ¬ b18 = b19 := Blk.ne v11_1 v12_1 (by decide)
                have hG7' := hG7
                clear hb7 HA HDS kd2
                go_wp2_with (first
                  | ((with_reducible refine is_store 38 ?_); refine wp_storeB b18 _ _ dx.cs v11_1 diskN rfl (dv_one _) rfl rfl ?_; intro w8 k8 r8; go_frame)
                  | ((with_reducible refine is_store 44 ?_); refine wp_storeB b19 _ _ l2.cs (v12_1.grown r8 (by simpa using hne)) logN rfl (lg_one _) rfl rfl ?_; intro w9 k9 r9; go_frame))
                refine noPanic_ok ?_
                have hd9 := (v8_0.kept (Kept.grown r8 v11_1 notDk)).kept (Kept.grown r9 (v12_1.grown r8 (by simpa using hne)) (by unfold dkT; decide))
                have HDS9 : Hid (∀ t d, ds[t]? = some d → DkV w9 d (DNf t)) := hid fun t d h => ((HDS7.out t d h).kept (Kept.grown r8 v11_1 notDk)).kept (Kept.grown r9 (v12_1.grown r8 (by simpa using hne)) (by unfold dkT; decide))
                have k18 := k8.grown r9 (by simp; omega)
                replace kB2 := (kB2.grown r8 (by simp; omega)).grown r9 (by simp; omega)
                replace kl2 := (kl2.grown r8 (by simp; omega)).grown r9 (by simp; omega)
                replace C0 := r9.cell (r8.cell C0 (by simp; omega)) (by simp; omega)
                replace C1 := r9.cell (r8.cell C1 (by simp; omega)) (by simp; omega)
                replace C2' := r9.cell (r8.cell C2' (by simp; omega)) (by simp; omega)
                replace C3 := r9.cell (r8.cell C3 (by simp; omega)) (by simp; omega)
                have D8 := hbq.grown r8 hbq.size (fun z hz => by cases hz; omega)
                replace hbq := D8.grown r9 D8.size (fun z hz => by cases hz; omega)
                have E8 := C2.grown r8 C2.size (fun z hz => by cases hz; omega)
                replace C2 := E8.grown r9 E8.size (fun z hz => by cases hz; omega)
                replace hown := (hown.kept r8 (.inr (fun hq => by have := (hown0 _ hq).2; omega))).kept r9 (.inr (fun hq => by have := (hown0 _ hq).2; omega))
                replace hbb := kB2.lt
                replace hG8 := kl2.lt
                have hG18 := k18.lt
                have hG19 := k9.lt
                clear r8 r9 k8 v11_1 v12_1 v11_0 v12_0 v8_0 D8 E8 HDS7 hG7 hown0
                go_wp2_with fail
                refine wp_region_head 184 8 [80, 81, 82, 83, 84, 85, 86, 87] [] ((fun kq => ([fun u w' => u = .int .i64 j, fun u w' => u = .pointer (some ⟨w.heap.size, j * 4, none⟩), fun u w' => u = x.val, fun u w' => ∃ (gp : Nat), u = .slice (some ⟨gp, 0, none⟩) pl pl, fun u w' => u = .int .i64 pl, fun u w' => u = l.v, fun u w' => u = .int .i64 rm, fun u w' => u = .bool false] : List (Value → World → Prop)).getD kq (fun _ _ => True))) (by kernel_rfl) rfl (by kernel_rfl) (.inl rfl) ?grow ?step ?tail
                case step =>
                  simp only [List.take_succ_cons, List.take_zero]
                  refine HSteps.cons ?_ ?_
                  · intro f w' hb hU
                    simp only [putAll, List.foldl_cons, List.foldl_nil]
                    go_frame
                    go_wp2_with fail
                    exact ⟨rfl, _, rfl, Below.refl _ _, rfl⟩
                  refine HSteps.cons ?_ ?_
                  · intro f w' hb hU
                    obtain u0 : f 80 = .int .i64 j := hU.get ⟨0, .data⟩ (by simp) rfl
                    simp only [putAll, List.foldl_cons, List.foldl_nil]
                    go_frame
                    try simp only [u0]
                    go_wp2_with fail
                    exact ⟨rfl, _, rfl, Below.refl _ _, rfl⟩
                  refine HSteps.cons ?_ ?_
                  · intro f w' hb hU
                    obtain u1 : f 81 = .pointer (some ⟨w.heap.size, j * 4, none⟩) := hU.get ⟨1, .data⟩ (by simp) rfl
                    have c0 := (hb.cell hbb).trans C0
                    have c1 := (hb.cell hbb).trans C1
                    have c2 := (hb.cell hbb).trans C2'
                    have c3 := (hb.cell hbb).trans C3
                    simp only [putAll, List.foldl_cons, List.foldl_nil]
                    go_frame
                    try simp only [u1]
                    go_wp2_with fail
                    exact ⟨rfl, _, rfl, Below.refl _ _, rfl⟩
                  refine HSteps.cons ?_ ?_
                  · intro f w' hb hU
                    obtain u2 : f 82 = x.val := hU.get ⟨2, .data⟩ (by simp) rfl
                    have R := HP.out w'
                    simp only [putAll, List.foldl_cons, List.foldl_nil]
                    go_frame
                    try simp only [u2]
                    go_wp2_with fail
                    refine (R).mono ?_
                    rintro e w3 ⟨gp, rfl, hgp, b3⟩
                    go_wp2_with fail
                    exact ⟨rfl, _, rfl, b3, gp, rfl⟩
                  refine HSteps.cons ?_ ?_
                  · intro f w' hb hU
                    obtain ⟨gp, u3⟩ : ∃ (gp : Nat), f 83 = .slice (some ⟨gp, 0, none⟩) pl pl := hU.get ⟨3, .data⟩ (by simp) rfl
                    simp only [putAll, List.foldl_cons, List.foldl_nil]
                    go_frame
                    try simp only [u3]
                    go_wp2_with fail
                    exact ⟨rfl, _, rfl, Below.refl _ _, rfl⟩
                  refine HSteps.cons ?_ ?_
                  · intro f w' hb hU
                    obtain ⟨x0', x1', x2', x3', x4', x5'⟩ := (kl2.keep hb).c6
                    simp only [putAll, List.foldl_cons, List.foldl_nil]
                    go_frame
                    go_wp2_with fail
                    exact ⟨rfl, _, rfl, Below.refl _ _, rfl⟩
                  refine HSteps.cons ?_ ?_
                  · intro f w' hb hU
                    obtain u5 : f 85 = l.v := hU.get ⟨5, .data⟩ (by simp) rfl
                    obtain ⟨gp, u3⟩ : ∃ (gp : Nat), f 83 = .slice (some ⟨gp, 0, none⟩) pl pl := hU.get ⟨3, .chain⟩ (by simp) rfl
                    have R := HRo.out w'
                    simp only [putAll, List.foldl_cons, List.foldl_nil]
                    go_frame
                    try simp only [u5, u3]
                    go_wp2_with fail
                    refine (R).mono ?_
                    rintro e w3 ⟨rfl, b3⟩
                    go_wp2_with fail
                    exact ⟨rfl, _, rfl, b3, rfl⟩
                  refine HSteps.cons ?_ ?_
                  · intro f w' hb hU
                    obtain u4 : f 84 = .int .i64 pl := hU.get ⟨4, .data⟩ (by simp) rfl
                    obtain u6 : f 86 = .int .i64 rm := hU.get ⟨6, .data⟩ (by simp) rfl
                    have hnr2 : decide (rm < (pl : Int)) = false := by simp; omega
                    simp only [putAll, List.foldl_cons, List.foldl_nil]
                    go_frame
                    try simp only [u4, u6]
                    go_wp2_with fail
                    exact ⟨rfl, _, rfl, Below.refl _ _, rfl⟩
                  exact HSteps.nil
                case grow =>
                  intro kq u wa wb hb hu
                  rcases kq with _ | _ | _ | _ | _ | _ | _ | _ | kq
                  · exact hu
                  · exact hu
                  · exact hu
                  · exact hu
                  · exact hu
                  · exact hu
                  · exact hu
                  · exact hu
                  · trivial
                case tail =>
                  intro f w7 hb7 hU
                  obtain u7 : f 87 = .bool false := hU.get 7 (by decide)
                  simp only [List.drop_succ_cons, List.drop_zero, putAll, List.foldl_cons, List.foldl_nil]
                  go_frame
                  simp only [u7]
                  clear u7
                  clear hU
                  replace kl2 := kl2.keep hb7
                  replace k9 := k9.keep hb7
                  replace k18 := k18.keep hb7
                  replace hd9 := hd9.keep hb7
                  replace hbq := hbq.trans (hb7.mono hbq.size)
                  replace C2 := C2.trans (hb7.mono C2.size)
                  replace hown := own_below hown hb7
                  replace HDS9 : Hid (∀ t d, ds[t]? = some d → DkV w7 d (DNf t)) := hid fun t d h => (HDS9.out t d h).keep hb7
                  clear hb7 C0 C1 C2' C3 kB2 hbb hG8 hG18 hG19
                  go_wp2_with fail
                  have ga := fun x : Ext w7 => (k9.keep x.h).c6
                  have ga0 := fun x => (ga x).1
                  have ga1 := fun x => (ga x).2.1
                  have ga2 := fun x => (ga x).2.2.1
                  have ga3 := fun x => (ga x).2.2.2.1
                  have ga4 := fun x => (ga x).2.2.2.2.1
                  have ga5 := fun x => (ga x).2.2.2.2.2
                  try dsimp only at ga0 ga1 ga2 ga3 ga4 ga5
                  clear ga
                  have gb := fun x : Ext w7 => (kl2.keep x.h).c6
                  have gb0 := fun x => (gb x).1
                  have gb1 := fun x => (gb x).2.1
                  have gb2 := fun x => (gb x).2.2.1
                  have gb3 := fun x => (gb x).2.2.2.1
                  have gb4 := fun x => (gb x).2.2.2.2.1
                  have gb5 := fun x => (gb x).2.2.2.2.2
                  try dsimp only at gb0 gb1 gb2 gb3 gb4 gb5
                  clear gb
                  have N1 := fun wx => HN2.out wx
                  have N2 := fun wx => HNx.out wx
                  have eg : IntKind.u64.wrap ((l.nx : Int) + 1) = ((l2.nx : Nat) : Int) := by rw [IntKind.wrap_u64, HL2.out]; omega
                  unfold Lg.v at N1 N2
                  have HN1 := hid N1
                  have HN3 := hid N2
                  clear N1 N2 HN2 kl2 k9
                  (refine wp_region_ext (by kernel_rfl) (by kernel_rfl) ?_; (repeat (go_big_quiet_step ((first | with_reducible exact Ext.calls _ (HN1.out _) | with_reducible exact Ext.calls _ (HN3.out _))))); refine wpQuiet_nil ?_; rintro _ ⟨y9, rfl⟩)
                  replace k18 := k18.keep y9.h
                  replace hd9 := hd9.keep y9.h
                  replace hbq := hbq.trans (y9.h.mono hbq.size)
                  replace C2 := C2.trans (y9.h.mono C2.size)
                  replace hown := own_below hown y9.h
                  have HDS8 : Hid (∀ t d, ds[t]? = some d → DkV y9.w d (DNf t)) := hid fun t d h => (HDS9.out t d h).keep y9.h
                  clear HDS9 HN1 HN3 eg ga0 ga1 ga2 ga3 ga4 ga5 gb0 gb1 gb2 gb3 gb4 gb5
                  generalize y9.w = wz at *
                  clear y9
                  obtain ⟨x0, x1, x2, x3, x4⟩ := k18.c5
                  have hG18 := k18.lt
                  have hwz := hbq.size
                  go_wp2_with (at_builtin; refine wp_appN rfl _ _ 66 rfl v9.heap.size 38 _ 5 40 dkET u16 j (ds.flatMap DV.cs) (hown.alloc _) rfl _ 1 1 dx.cs (RL.new wz _ _ _ 5 1 rfl) rfl (dv_one dx) (by unfold maxLen; omega) (by omega) (by simp; omega) ?_; intro v8 w8 hown8 r8 a8; go_frame)
                  have ba : Below wz.heap.size wz (wz.alloc (.cells #[.int .i64 dx.n, .pointer dx.s, .pointer dx.c, .pointer dx.l, .int .i64 dx.m] 38)) := (Below.refl _ _).alloc (Nat.le_refl _) _
                  have K8 := (Kept.below ba).trans (Kept.ownN (own_below hown ba) r8 notDk)
                  have hbq8 := (hbq.trans (ba.mono hbq.size)).grown r8 (by simp; omega) (fun g hg => (hown.lt g hg).1)
                  have HDS' : Hid (∀ t d, (ds ++ [dx])[t]? = some d → DkV w8 d (DNf t)) := hid fun t d h => by
                    by_cases ht : t < j
                    · rw [List.getElem?_append_left (by omega)] at h
                      exact (HDS8.out t d h).kept K8
                    · rw [List.getElem?_append_right (by omega)] at h
                      have h0 : t - ds.length = 0 := by
                        rcases Nat.eq_zero_or_pos (t - ds.length) with h0 | h0
                        · exact h0
                        · rw [List.getElem?_eq_none (by simp; omega)] at h
                          cases h
                      rw [h0] at h
                      cases h
                      obtain rfl : t = j := by omega
                      rw [HDN.out]
                      exact hd9.kept K8
                  have HFT' : Hid (∀ t, t < j + 1 → cnt (lsf t).pay.length ≤ l.left) := hid fun t ht => by
                    by_cases h : t < j
                    · exact HFT.out t h
                    · obtain rfl : t = j := by omega
                      rw [HXJ.out, HPAY.out, HPLN.out]
                      exact hfit
                  have e8 : ds.flatMap DV.cs ++ dx.cs = (ds ++ [dx]).flatMap DV.cs := by rw [List.flatMap_append]; simp
                  rw [e8] at hown8
                  clear K8 ba x0 x1 x2 x3 x4 hG18 k18 hd9 HDS8 hown r8 a8 hbq C2 e8
                  go_roundw
                  case rel => exact ⟨j + 1, ds ++ [dx], by omega, by go_num, by rw [List.length_append, hdl]; rfl, hown8, HDS', HFT', hbq8⟩
                  case measure => simp [intOf]; omega
            · have HA : Hid (∀ w' A c, Calls Tryd.prog 21 #[l.v, d.v, .slice A pl c] w' fun e w'' => e = .returned (.tuple #[DV.zero.v, Lg.zero.v, .int .i64 11]) ∧ Below w'.heap.size w' w'') := hid fun w' A c => HAfj.out w' A c (by omega)
              have hnr := HRmj.2 (by omega)
              clear HPj HAgj HAfj HRmj
              refine wp_region_headF 184 13 [70, 71, 72, 73, 74, 75, 76, 69, 77, 78, 79, 18, 19] [9, 10] ((fun kq => ([fun u w' => u = l.v, fun u w' => u = d.v, fun u w' => u = .int .i64 j, fun u w' => u = .pointer (some ⟨w.heap.size, j * 4, none⟩), fun u w' => u = x.val, fun u w' => ∃ (gp : Nat), u = .slice (some ⟨gp, 0, none⟩) pl pl ∧ RB w' (some ⟨gp, 0, none⟩) pl pay, fun u w' => u = .tuple #[DV.zero.v, Lg.zero.v, .int .i64 11], fun u w' => u = .tuple #[DV.zero.v, Lg.zero.v, .int .i64 11], fun u w' => u = DV.zero.v, fun u w' => u = Lg.zero.v, fun u w' => u = .int .i64 11, fun u w' => ∃ (b18 : Nat), u = .pointer (some ⟨b18, 0, none⟩) ∧ wr.heap.size ≤ b18 ∧ Blk w' b18 38 DV.zero.cs, fun u w' => ∃ (b19 : Nat), u = .pointer (some ⟨b19, 0, none⟩) ∧ wr.heap.size ≤ b19 ∧ Blk w' b19 44 Lg.zero.cs] : List (Value → World → Prop)).getD kq (fun _ _ => True))) (by kernel_rfl) rfl (by kernel_rfl) ?grow ?step ?tail
              case step =>
                simp only [List.take_succ_cons, List.take_zero]
                refine HSteps.cons ?_ ?_
                · intro f w' hb hU
                  obtain ⟨x0', x1', x2', x3', x4', x5'⟩ := (kl2.keep hb).c6
                  simp only [putAll, List.foldl_cons, List.foldl_nil]
                  go_frame
                  go_wp2_with fail
                  exact ⟨rfl, _, rfl, Below.refl _ _, rfl⟩
                refine HSteps.cons ?_ ?_
                · intro f w' hb hU
                  obtain ⟨x0', x1', x2', x3', x4'⟩ := (kd2.k.keep hb).c5
                  simp only [putAll, List.foldl_cons, List.foldl_nil]
                  go_frame
                  go_wp2_with fail
                  exact ⟨rfl, _, rfl, Below.refl _ _, rfl⟩
                refine HSteps.cons ?_ ?_
                · intro f w' hb hU
                  simp only [putAll, List.foldl_cons, List.foldl_nil]
                  go_frame
                  go_wp2_with fail
                  exact ⟨rfl, _, rfl, Below.refl _ _, rfl⟩
                refine HSteps.cons ?_ ?_
                · intro f w' hb hU
                  obtain u2 : f 72 = .int .i64 j := hU.get ⟨2, .data⟩ (by simp) rfl
                  simp only [putAll, List.foldl_cons, List.foldl_nil]
                  go_frame
                  try simp only [u2]
                  go_wp2_with fail
                  exact ⟨rfl, _, rfl, Below.refl _ _, rfl⟩
                refine HSteps.cons ?_ ?_
                · intro f w' hb hU
                  obtain u3 : f 73 = .pointer (some ⟨w.heap.size, j * 4, none⟩) := hU.get ⟨3, .data⟩ (by simp) rfl
                  have c0 := (hb.cell hbb).trans C0
                  have c1 := (hb.cell hbb).trans C1
                  have c2 := (hb.cell hbb).trans C2'
                  have c3 := (hb.cell hbb).trans C3
                  simp only [putAll, List.foldl_cons, List.foldl_nil]
                  go_frame
                  try simp only [u3]
                  go_wp2_with fail
                  exact ⟨rfl, _, rfl, Below.refl _ _, rfl⟩
                refine HSteps.cons ?_ ?_
                · intro f w' hb hU
                  obtain u4 : f 74 = x.val := hU.get ⟨4, .data⟩ (by simp) rfl
                  have R := HP.out w'
                  simp only [putAll, List.foldl_cons, List.foldl_nil]
                  go_frame
                  try simp only [u4]
                  go_wp2_with fail
                  refine (R).mono ?_
                  rintro e w3 ⟨gp, rfl, hgp, b3⟩
                  go_wp2_with fail
                  exact ⟨rfl, _, rfl, b3, gp, rfl, hgp⟩
                refine HSteps.cons ?_ ?_
                · intro f w' hb hU
                  obtain u0 : f 70 = l.v := hU.get ⟨0, .data⟩ (by simp) rfl
                  obtain u1 : f 71 = d.v := hU.get ⟨1, .data⟩ (by simp) rfl
                  obtain ⟨gp, u5, v5_0⟩ : ∃ (gp : Nat), f 75 = .slice (some ⟨gp, 0, none⟩) pl pl ∧ RB w' (some ⟨gp, 0, none⟩) pl pay := hU.get ⟨5, .data⟩ (by simp) rfl
                  have R := HA.out w' (some ⟨gp, 0, none⟩) pl
                  simp only [putAll, List.foldl_cons, List.foldl_nil]
                  go_frame
                  try simp only [u0, u1, u5]
                  go_wp2_with fail
                  refine (R).mono ?_
                  rintro e w3 ⟨rfl, b3⟩
                  go_wp2_with fail
                  exact ⟨rfl, _, rfl, b3, rfl⟩
                refine HSteps.cons ?_ ?_
                · intro f w' hb hU
                  obtain u6 : f 76 = .tuple #[DV.zero.v, Lg.zero.v, .int .i64 11] := hU.get ⟨6, .data⟩ (by simp) rfl
                  simp only [putAll, List.foldl_cons, List.foldl_nil]
                  go_frame
                  try simp only [u6]
                  go_wp2_with fail
                  exact ⟨rfl, _, rfl, Below.refl _ _, rfl⟩
                refine HSteps.cons ?_ ?_
                · intro f w' hb hU
                  obtain u7 : f 69 = .tuple #[DV.zero.v, Lg.zero.v, .int .i64 11] := hU.get ⟨7, .data⟩ (by simp) rfl
                  simp only [putAll, List.foldl_cons, List.foldl_nil]
                  go_frame
                  try simp only [u7]
                  go_wp2_with fail
                  exact ⟨rfl, _, rfl, Below.refl _ _, rfl⟩
                refine HSteps.cons ?_ ?_
                · intro f w' hb hU
                  obtain u7 : f 69 = .tuple #[DV.zero.v, Lg.zero.v, .int .i64 11] := hU.get ⟨7, .data⟩ (by simp) rfl
                  simp only [putAll, List.foldl_cons, List.foldl_nil]
                  go_frame
                  try simp only [u7]
                  go_wp2_with fail
                  exact ⟨rfl, _, rfl, Below.refl _ _, rfl⟩
                refine HSteps.cons ?_ ?_
                · intro f w' hb hU
                  obtain u7 : f 69 = .tuple #[DV.zero.v, Lg.zero.v, .int .i64 11] := hU.get ⟨7, .data⟩ (by simp) rfl
                  simp only [putAll, List.foldl_cons, List.foldl_nil]
                  go_frame
                  try simp only [u7]
                  go_wp2_with fail
                  exact ⟨rfl, _, rfl, Below.refl _ _, rfl⟩
                refine HSteps.cons ?_ ?_
                · intro f w' hb hU
                  have hP : Blk _ w'.heap.size 38 DV.zero.cs := Blk.new w' _ _
                  have hb3 : Below w'.heap.size w' _ := (Below.refl _ _).alloc (Nat.le_refl _) (.cells (DV.zero.cs).toArray 38)
                  simp only [putAll, List.foldl_cons, List.foldl_nil]
                  go_frame
                  go_wp2_with fail
                  exact ⟨rfl, _, rfl, hb3, _, rfl, hb.size, hP⟩
                refine HSteps.cons ?_ ?_
                · intro f w' hb hU
                  have hP : Blk _ w'.heap.size 44 Lg.zero.cs := Blk.new w' _ _
                  have hb3 : Below w'.heap.size w' _ := (Below.refl _ _).alloc (Nat.le_refl _) (.cells (Lg.zero.cs).toArray 44)
                  simp only [putAll, List.foldl_cons, List.foldl_nil]
                  go_frame
                  go_wp2_with fail
                  exact ⟨rfl, _, rfl, hb3, _, rfl, hb.size, hP⟩
                exact HSteps.nil
              case grow =>
                intro kq u wa wb hb hu
                rcases kq with _ | _ | _ | _ | _ | _ | _ | _ | _ | _ | _ | _ | _ | kq
                · exact hu
                · exact hu
                · exact hu
                · exact hu
                · exact hu
                · obtain ⟨gp, ue, uf0⟩ := hu
                  exact ⟨gp, ue, uf0.below hb⟩
                · exact hu
                · exact hu
                · exact hu
                · exact hu
                · exact hu
                · obtain ⟨b18, ue, uf0, uf1⟩ := hu
                  exact ⟨b18, ue, uf0, uf1.keep hb⟩
                · obtain ⟨b19, ue, uf0, uf1⟩ := hu
                  exact ⟨b19, ue, uf0, uf1.keep hb⟩
                · trivial
              case tail =>
                intro f w7 hb7 hU
                obtain u8 : f 77 = DV.zero.v := hU.get 8 (by decide)
                obtain u9 : f 78 = Lg.zero.v := hU.get 9 (by decide)
                obtain u10 : f 79 = .int .i64 11 := hU.get 10 (by decide)
                obtain ⟨b18, u11, v11_0, v11_1⟩ : ∃ (b18 : Nat), f 18 = .pointer (some ⟨b18, 0, none⟩) ∧ wr.heap.size ≤ b18 ∧ Blk w7 b18 38 DV.zero.cs := hU.get 11 (by decide)
                obtain ⟨b19, u12, v12_0, v12_1⟩ : ∃ (b19 : Nat), f 19 = .pointer (some ⟨b19, 0, none⟩) ∧ wr.heap.size ≤ b19 ∧ Blk w7 b19 44 Lg.zero.cs := hU.get 12 (by decide)
                simp only [List.drop_succ_cons, List.drop_zero, putAll, List.foldl_cons, List.foldl_nil]
                go_frame
                simp only [u8, u9, u10, u11, u12]
                clear u8 u9 u10 u11 u12
                clear hU
                have hwq := C2.size
                replace kl2 := kl2.keep hb7
                replace kB2 := kB2.keep hb7
                replace C2 := C2.trans (hb7.mono C2.size)
                replace C0 := (hb7.cell hbb).trans C0
                replace C1 := (hb7.cell hbb).trans C1
                replace C2' := (hb7.cell hbb).trans C2'
                replace C3 := (hb7.cell hbb).trans C3
                have hne : ¬ b18 = b19 := Blk.ne v11_1 v12_1 (by decide)
                clear hb7 HA HDS kd2 hown
                go_wp2_with (first
                  | ((with_reducible refine is_store 38 ?_); refine wp_storeB b18 _ _ DV.zero.cs v11_1 diskN rfl (dv_one _) rfl rfl ?_; intro w8 k8 r8; go_frame)
                  | ((with_reducible refine is_store 44 ?_); refine wp_storeB b19 _ _ Lg.zero.cs (v12_1.grown r8 (by simpa using hne)) logN rfl (lg_one _) rfl rfl ?_; intro w9 k9 r9; go_frame))
                refine noPanic_ok ?_
                replace kB2 := (kB2.grown r8 (by simp; omega)).grown r9 (by simp; omega)
                replace kl2 := (kl2.grown r8 (by simp; omega)).grown r9 (by simp; omega)
                replace C0 := r9.cell (r8.cell C0 (by simp; omega)) (by simp; omega)
                replace C1 := r9.cell (r8.cell C1 (by simp; omega)) (by simp; omega)
                replace C2' := r9.cell (r8.cell C2' (by simp; omega)) (by simp; omega)
                replace C3 := r9.cell (r8.cell C3 (by simp; omega)) (by simp; omega)
                have E8 := C2.grown r8 C2.size (fun z hz => by cases hz; omega)
                replace C2 := E8.grown r9 E8.size (fun z hz => by cases hz; omega)
                replace hbb := kB2.lt
                replace hG8 := kl2.lt
                clear r8 r9 k8 k9 v11_1 v12_1 v11_0 v12_0 E8 hG7
                go_wp2_with fail
                refine wp_region_head 184 8 [80, 81, 82, 83, 84, 85, 86, 87] [] ((fun kq => ([fun u w' => u = .int .i64 j, fun u w' => u = .pointer (some ⟨w.heap.size, j * 4, none⟩), fun u w' => u = x.val, fun u w' => ∃ (gp : Nat), u = .slice (some ⟨gp, 0, none⟩) pl pl, fun u w' => u = .int .i64 pl, fun u w' => u = l.v, fun u w' => u = .int .i64 rm, fun u w' => u = .bool true] : List (Value → World → Prop)).getD kq (fun _ _ => True))) (by kernel_rfl) rfl (by kernel_rfl) (.inl rfl) ?grow ?step ?tail
                case step =>
                  simp only [List.take_succ_cons, List.take_zero]
                  refine HSteps.cons ?_ ?_
                  · intro f w' hb hU
                    simp only [putAll, List.foldl_cons, List.foldl_nil]
                    go_frame
                    go_wp2_with fail
                    exact ⟨rfl, _, rfl, Below.refl _ _, rfl⟩
                  refine HSteps.cons ?_ ?_
                  · intro f w' hb hU
                    obtain u0 : f 80 = .int .i64 j := hU.get ⟨0, .data⟩ (by simp) rfl
                    simp only [putAll, List.foldl_cons, List.foldl_nil]
                    go_frame
                    try simp only [u0]
                    go_wp2_with fail
                    exact ⟨rfl, _, rfl, Below.refl _ _, rfl⟩
                  refine HSteps.cons ?_ ?_
                  · intro f w' hb hU
                    obtain u1 : f 81 = .pointer (some ⟨w.heap.size, j * 4, none⟩) := hU.get ⟨1, .data⟩ (by simp) rfl
                    have c0 := (hb.cell hbb).trans C0
                    have c1 := (hb.cell hbb).trans C1
                    have c2 := (hb.cell hbb).trans C2'
                    have c3 := (hb.cell hbb).trans C3
                    simp only [putAll, List.foldl_cons, List.foldl_nil]
                    go_frame
                    try simp only [u1]
                    go_wp2_with fail
                    exact ⟨rfl, _, rfl, Below.refl _ _, rfl⟩
                  refine HSteps.cons ?_ ?_
                  · intro f w' hb hU
                    obtain u2 : f 82 = x.val := hU.get ⟨2, .data⟩ (by simp) rfl
                    have R := HP.out w'
                    simp only [putAll, List.foldl_cons, List.foldl_nil]
                    go_frame
                    try simp only [u2]
                    go_wp2_with fail
                    refine (R).mono ?_
                    rintro e w3 ⟨gp, rfl, hgp, b3⟩
                    go_wp2_with fail
                    exact ⟨rfl, _, rfl, b3, gp, rfl⟩
                  refine HSteps.cons ?_ ?_
                  · intro f w' hb hU
                    obtain ⟨gp, u3⟩ : ∃ (gp : Nat), f 83 = .slice (some ⟨gp, 0, none⟩) pl pl := hU.get ⟨3, .data⟩ (by simp) rfl
                    simp only [putAll, List.foldl_cons, List.foldl_nil]
                    go_frame
                    try simp only [u3]
                    go_wp2_with fail
                    exact ⟨rfl, _, rfl, Below.refl _ _, rfl⟩
                  refine HSteps.cons ?_ ?_
                  · intro f w' hb hU
                    obtain ⟨x0', x1', x2', x3', x4', x5'⟩ := (kl2.keep hb).c6
                    simp only [putAll, List.foldl_cons, List.foldl_nil]
                    go_frame
                    go_wp2_with fail
                    exact ⟨rfl, _, rfl, Below.refl _ _, rfl⟩
                  refine HSteps.cons ?_ ?_
                  · intro f w' hb hU
                    obtain u5 : f 85 = l.v := hU.get ⟨5, .data⟩ (by simp) rfl
                    obtain ⟨gp, u3⟩ : ∃ (gp : Nat), f 83 = .slice (some ⟨gp, 0, none⟩) pl pl := hU.get ⟨3, .chain⟩ (by simp) rfl
                    have R := HRo.out w'
                    simp only [putAll, List.foldl_cons, List.foldl_nil]
                    go_frame
                    try simp only [u5, u3]
                    go_wp2_with fail
                    refine (R).mono ?_
                    rintro e w3 ⟨rfl, b3⟩
                    go_wp2_with fail
                    exact ⟨rfl, _, rfl, b3, rfl⟩
                  refine HSteps.cons ?_ ?_
                  · intro f w' hb hU
                    obtain u4 : f 84 = .int .i64 pl := hU.get ⟨4, .data⟩ (by simp) rfl
                    obtain u6 : f 86 = .int .i64 rm := hU.get ⟨6, .data⟩ (by simp) rfl
                    have hnr2 : decide (rm < (pl : Int)) = true := by simp; omega
                    simp only [putAll, List.foldl_cons, List.foldl_nil]
                    go_frame
                    try simp only [u4, u6]
                    go_wp2_with fail
                    exact ⟨rfl, _, rfl, Below.refl _ _, rfl⟩
                  exact HSteps.nil
                case grow =>
                  intro kq u wa wb hb hu
                  rcases kq with _ | _ | _ | _ | _ | _ | _ | _ | kq
                  · exact hu
                  · exact hu
                  · exact hu
                  · exact hu
                  · exact hu
                  · exact hu
                  · exact hu
                  · exact hu
                  · trivial
                case tail =>
                  intro f w7 hb7 hU
                  obtain u7 : f 87 = .bool true := hU.get 7 (by decide)
                  simp only [List.drop_succ_cons, List.drop_zero, putAll, List.foldl_cons, List.foldl_nil]
                  go_frame
                  simp only [u7]
                  clear u7
                  clear hU
                  replace C2 := C2.trans (hb7.mono C2.size)
                  clear hb7 C0 C1 C2' C3 kB2 hbb hG8
                  refine noPanic_ok ?_
                  go_wp2_with fail
                  refine (awake_any _ (HTb.out.keep C2)).mono ?_
                  rintro e w10 ⟨rfl, b10⟩
                  go_wp2_with fail
                  go_ret
                  exact ⟨rfl, C2.trans (b10.mono C2.size)⟩
          · obtain rfl : j = 2 := by omega
            obtain ⟨va, hva⟩ : ∃ z, z = wr := ⟨_, rfl⟩
            subst hva
            obtain ⟨A16, c16, rfl, hr16, _, _⟩ := own_formN hown
            clear hown
            go_wp2_with fail
            go_loopw [21] (fun i wq => ∃ j : Nat, j ≤ 2 ∧ i = .int .i64 j ∧ Below va.heap.size va wq) (fun i _ => 2 - (intOf i).toNat)
            case atStart => exact ⟨0, by omega, rfl, Below.refl _ _⟩
            case round =>
              obtain ⟨j, hj, rfl, hbr⟩ := hrel
              have kB3 := kB2.keep hbr
              have kd3 := kd2.keep hbr
              have kl3 := kl2.keep hbr
              have C4 := C2.trans (hbr.mono C2.size)
              by_cases hlt : j < 2
              · obtain ⟨bd, od, dj, rfl, hbd, hxd, hcell⟩ := (hr16.below hbr).el (f := DV.cs) (fun _ => rfl) hlt (by omega)
                have X0 := hcell 0 _ rfl
                have X1 := hcell 1 _ rfl
                have X2 := hcell 2 _ rfl
                have X3 := hcell 3 _ rfl
                have X4 := hcell 4 _ rfl
                rw [Nat.add_zero] at X0
                clear hcell
                have hdj := (HDS.out j dj hxd).keep hbr
                obtain ⟨l', ho, hf, hnx0, hn⟩ := HOf.out j (HFT.out j hlt)
                have HNX := hid hnx0
                clear hnx0
                have t2 : (j : Int) < 2 := by omega
                go_wp2_with fail
                have R := wopen_any dj (DNf j) 2 q wr hdj (HTb.out.keep C4) hk2 (by omega)
                rw [ho, hf] at R
                unfold wopenE at R
                dsimp only at R
                rw [show ((2 : Nat) : Int) = 2 from rfl] at R
                simp only [DV.v] at R
                refine R.mono ?_
                clear R ho hf hdj X0 X1 X2 X3 X4
                rintro e w10 ⟨⟨sA, sn, sc⟩, rfl, hrr, b10⟩
                have hen := hrr.e
                rw [recsAt_len, List.length_append, List.length_map, List.length_singleton] at hen
                dsimp only at hen
                subst hen
                obtain ⟨br, orr, ⟨pA, pn, pc⟩, eA, hbr1, hc0, hc1, hsl⟩ := hrr.at (i := rs.length) (x := ((1 + rs.length) % 18446744073709551616, (lsf j).pay)) (by
                  rw [recsAt_snoc _ _ _ (by decide), List.getElem?_append_right (by rw [recsAt_len, List.length_map]; exact Nat.le_refl _), recsAt_len, List.length_map, Nat.sub_self]
                  rfl)
                dsimp only at eA hc0 hc1
                subst eA
                have hrb := hsl.rb
                dsimp only at hrb
                clear hrr hsl hc0
                simp only [Sl.v] at hc1
                replace kB3 := kB3.keep b10
                replace kl3 := kl3.keep b10
                replace hbr := hbr.trans (b10.mono hbr.size)
                replace C4 := C4.trans (b10.mono C4.size)
                clear b10 kd3
                have hs10 := C4.size
                have hsv := hbr.size
                have hG8 := kl3.lt
                have hGB := kB3.lt
                simp only [Sl.v, Lg.v]
                go_wp2_with (first
                  | ((with_reducible refine is_alloc 44 ?_); refine wp_allocB (w := w10) _ arrLog ?_; intro w11 k11 b11 s11; go_frame)
                  | ((with_reducible refine is_store 44 ?_); refine wp_storeB w10.heap.size _ _ l'.cs k11 logN rfl (lg_one _) rfl rfl ?_; intro w12 k12 r12; go_frame))
                replace kB3 := (kB3.keep b11).grown r12 (by simp; omega)
                replace kl3 := (kl3.keep b11).grown r12 (by simp; omega)
                replace hrb := RL.grown (RB.below hrb b11) r12 (fun g hg hn b o hA he => by cases hg; obtain ⟨b', o', e1, h1, _⟩ := hrb.2 hn; rw [hA] at e1; cases e1; omega)
                replace hc1 := r12.cell ((b11.cell hbr1).trans hc1) (by simp; omega)
                have hbr2 : br < w12.heap.size := by have := b11.size; have := r12.size; omega
                have hbra := hbr.trans (b11.mono hbr.size)
                replace hbr := hbra.grown r12 hbra.size (fun z hz => by cases hz; exact hsv)
                have C4a := C4.trans (b11.mono C4.size)
                replace C4 := C4a.grown r12 C4a.size (fun z hz => by cases hz; exact hs10)
                clear b11 s11 k11 r12 C4a hbra hbr1
                generalize w10.heap.size = g22 at *
                obtain ⟨c0, c1, c2, c3⟩ := HC.out j hlt
                have C0 := (kB3.cell (j * 4)).trans c0
                have C1 := (kB3.cell (j * 4 + 1)).trans c1
                have C2' := (kB3.cell (j * 4 + 2)).trans c2
                have C3 := (kB3.cell (j * 4 + 3)).trans c3
                have HPj := hid (HPay.out j)
                generalize hxj : lsf j = x at C0 C1 C2' C3 HPj hrb
                have HXJ := hid hxj
                clear hxj c0 c1 c2 c3
                generalize hpay : x.pay = pay at *
                have HPAY := hid hpay
                clear hpay
                obtain ⟨pl, hpl2⟩ : ∃ z, pay.length = z := ⟨_, rfl⟩
                have HPLN := hid hpl2
                rw [hpl2] at HPj
                clear hpl2
                have HP := HPj
                have hbb := kB3.lt
                have N1 := fun wx => next_any l' wx
                have eg : IntKind.u64.wrap ((l.nx : Int) + 1) = ((l'.nx : Nat) : Int) := by rw [IntKind.wrap_u64, HNX.out]; omega
                have HN1 := hid N1
                clear N1
                have tt1 : (((rs.length : Int) + 1) != (rs.length : Int) + 1) = false := by rw [bne_self_eq_false]
                have tt2 : (((rs.length + 1 : Nat) : Int) != (rs.length : Int) + 1) = false := by rw [bne_eq_false_iff_eq]; omega
                go_wp2_with fail
                refine wp_region_head 184 31 [121, 122, 123, 124, 125, 126, 127, 128, 129, 130, 131, 132, 133, 134, 135, 136, 137, 138, 139, 140, 141, 142, 143, 144, 145, 146, 147, 148, 149, 150, 151] [] ((fun kq => ([fun u w' => u = .int .i64 0, fun u w' => u = .bool false, fun u w' => u = .bool false, fun u w' => u = .slice (some ⟨br, orr, none⟩) (rs.length + 1) sc, fun u w' => u = .int .i64 ((rs.length : Int) + 1), fun u w' => u = .int .i64 rs.length, fun u w' => u = .int .i64 ((rs.length : Int) + 1), fun u w' => u = .bool false, fun u w' => u = .bool false, fun u w' => u = .bool false, fun u w' => u = .slice (some ⟨br, orr, none⟩) (rs.length + 1) sc, fun u w' => u = .int .i64 rs.length, fun u w' => u = .pointer (some ⟨br, orr + rs.length * 2, none⟩), fun u w' => u = .pointer (some ⟨br, orr + rs.length * 2 + 1, none⟩), fun u w' => u = .slice pA pn pc, fun u w' => u = .string ⟨pay.toArray⟩, fun u w' => u = .int .i64 j, fun u w' => u = .pointer (some ⟨w.heap.size, j * 4, none⟩), fun u w' => u = x.val, fun u w' => ∃ (gp : Nat), u = .slice (some ⟨gp, 0, none⟩) pl pl ∧ RB w' (some ⟨gp, 0, none⟩) pl pay, fun u w' => u = .string ⟨pay.toArray⟩, fun u w' => u = .bool false, fun u w' => u = .bool false, fun u w' => u = .bool false, fun u w' => u = l'.v, fun u w' => u = .int .u64 l'.nx, fun u w' => u = l.v, fun u w' => u = .int .u64 l.nx, fun u w' => u = .int .u64 l'.nx, fun u w' => u = .bool false, fun u w' => u = .bool false] : List (Value → World → Prop)).getD kq (fun _ _ => True))) (by kernel_rfl) rfl (by kernel_rfl) (.inl rfl) ?grow ?step ?tail
                case step =>
                  simp only [List.take_succ_cons, List.take_zero]
                  refine HSteps.cons ?_ ?_
                  · intro f w' hb hU
                    simp only [putAll, List.foldl_cons, List.foldl_nil]
                    go_frame
                    go_wp2_with fail
                    exact ⟨rfl, _, rfl, Below.refl _ _, rfl⟩
                  refine HSteps.cons ?_ ?_
                  · intro f w' hb hU
                    obtain u0 : f 121 = .int .i64 0 := hU.get ⟨0, .data⟩ (by simp) rfl
                    simp only [putAll, List.foldl_cons, List.foldl_nil]
                    go_frame
                    try simp only [u0]
                    go_wp2_with fail
                    exact ⟨rfl, _, rfl, Below.refl _ _, rfl⟩
                  refine HSteps.cons ?_ ?_
                  · intro f w' hb hU
                    obtain u1 : f 122 = .bool false := hU.get ⟨1, .data⟩ (by simp) rfl
                    simp only [putAll, List.foldl_cons, List.foldl_nil]
                    go_frame
                    try simp only [u1]
                    go_wp2_with fail
                    exact ⟨rfl, _, rfl, Below.refl _ _, rfl⟩
                  refine HSteps.cons ?_ ?_
                  · intro f w' hb hU
                    simp only [putAll, List.foldl_cons, List.foldl_nil]
                    go_frame
                    obtain u2 : f 123 = .bool false := hU.get ⟨2, .guard⟩ (by simp) rfl
                    try simp only [u2]
                    go_wp2_with fail
                    exact ⟨rfl, _, rfl, Below.refl _ _, rfl⟩
                  refine HSteps.cons ?_ ?_
                  · intro f w' hb hU
                    simp only [putAll, List.foldl_cons, List.foldl_nil]
                    go_frame
                    obtain u3 : f 124 = .slice (some ⟨br, orr, none⟩) (rs.length + 1) sc := hU.get ⟨3, .data⟩ (by simp) rfl
                    obtain u2 : f 123 = .bool false := hU.get ⟨2, .guard⟩ (by simp) rfl
                    try simp only [u3, u2]
                    go_wp2_with fail
                    exact ⟨rfl, _, rfl, Below.refl _ _, rfl⟩
                  refine HSteps.cons ?_ ?_
                  · intro f w' hb hU
                    simp only [putAll, List.foldl_cons, List.foldl_nil]
                    go_frame
                    obtain u2 : f 123 = .bool false := hU.get ⟨2, .guard⟩ (by simp) rfl
                    try simp only [u2]
                    go_wp2_with fail
                    exact ⟨rfl, _, rfl, Below.refl _ _, rfl⟩
                  refine HSteps.cons ?_ ?_
                  · intro f w' hb hU
                    simp only [putAll, List.foldl_cons, List.foldl_nil]
                    go_frame
                    obtain u5 : f 126 = .int .i64 rs.length := hU.get ⟨5, .data⟩ (by simp) rfl
                    obtain u2 : f 123 = .bool false := hU.get ⟨2, .guard⟩ (by simp) rfl
                    try simp only [u5, u2]
                    go_wp2_with fail
                    exact ⟨rfl, _, rfl, Below.refl _ _, rfl⟩
                  refine HSteps.cons ?_ ?_
                  · intro f w' hb hU
                    simp only [putAll, List.foldl_cons, List.foldl_nil]
                    go_frame
                    obtain u4 : f 125 = .int .i64 ((rs.length : Int) + 1) := hU.get ⟨4, .data⟩ (by simp) rfl
                    obtain u6 : f 127 = .int .i64 ((rs.length : Int) + 1) := hU.get ⟨6, .data⟩ (by simp) rfl
                    obtain u2 : f 123 = .bool false := hU.get ⟨2, .guard⟩ (by simp) rfl
                    try simp only [u4, u6, u2]
                    go_wp2_with fail
                    exact ⟨rfl, _, rfl, Below.refl _ _, rfl⟩
                  refine HSteps.cons ?_ ?_
                  · intro f w' hb hU
                    obtain u2 : f 123 = .bool false := hU.get ⟨2, .data⟩ (by simp) rfl
                    obtain u7 : f 128 = .bool false := hU.get ⟨7, .data⟩ (by simp) rfl
                    simp only [putAll, List.foldl_cons, List.foldl_nil]
                    go_frame
                    try simp only [u2, u7]
                    go_wp2_with fail
                    exact ⟨rfl, _, rfl, Below.refl _ _, rfl⟩
                  refine HSteps.cons ?_ ?_
                  · intro f w' hb hU
                    obtain u8 : f 129 = .bool false := hU.get ⟨8, .data⟩ (by simp) rfl
                    obtain u2 : f 123 = .bool false := hU.get ⟨2, .chain⟩ (by simp) rfl
                    simp only [putAll, List.foldl_cons, List.foldl_nil]
                    go_frame
                    try simp only [u8, u2]
                    go_wp2_with fail
                    exact ⟨rfl, _, rfl, Below.refl _ _, rfl⟩
                  refine HSteps.cons ?_ ?_
                  · intro f w' hb hU
                    simp only [putAll, List.foldl_cons, List.foldl_nil]
                    go_frame
                    obtain u9 : f 130 = .bool false := hU.get ⟨9, .guard⟩ (by simp) rfl
                    try simp only [u9]
                    go_wp2_with fail
                    exact ⟨rfl, _, rfl, Below.refl _ _, rfl⟩
                  refine HSteps.cons ?_ ?_
                  · intro f w' hb hU
                    simp only [putAll, List.foldl_cons, List.foldl_nil]
                    go_frame
                    obtain u9 : f 130 = .bool false := hU.get ⟨9, .guard⟩ (by simp) rfl
                    try simp only [u9]
                    go_wp2_with fail
                    exact ⟨rfl, _, rfl, Below.refl _ _, rfl⟩
                  refine HSteps.cons ?_ ?_
                  · intro f w' hb hU
                    simp only [putAll, List.foldl_cons, List.foldl_nil]
                    go_frame
                    obtain u10 : f 131 = .slice (some ⟨br, orr, none⟩) (rs.length + 1) sc := hU.get ⟨10, .data⟩ (by simp) rfl
                    obtain u11 : f 132 = .int .i64 rs.length := hU.get ⟨11, .data⟩ (by simp) rfl
                    obtain u9 : f 130 = .bool false := hU.get ⟨9, .guard⟩ (by simp) rfl
                    try simp only [u10, u11, u9]
                    go_wp2_with fail
                    exact ⟨rfl, _, rfl, Below.refl _ _, rfl⟩
                  refine HSteps.cons ?_ ?_
                  · intro f w' hb hU
                    simp only [putAll, List.foldl_cons, List.foldl_nil]
                    go_frame
                    obtain u12 : f 133 = .pointer (some ⟨br, orr + rs.length * 2, none⟩) := hU.get ⟨12, .data⟩ (by simp) rfl
                    obtain u9 : f 130 = .bool false := hU.get ⟨9, .guard⟩ (by simp) rfl
                    try simp only [u12, u9]
                    go_wp2_with fail
                    exact ⟨rfl, _, rfl, Below.refl _ _, rfl⟩
                  refine HSteps.cons ?_ ?_
                  · intro f w' hb hU
                    simp only [putAll, List.foldl_cons, List.foldl_nil]
                    go_frame
                    obtain u13 : f 134 = .pointer (some ⟨br, orr + rs.length * 2 + 1, none⟩) := hU.get ⟨13, .data⟩ (by simp) rfl
                    obtain u9 : f 130 = .bool false := hU.get ⟨9, .guard⟩ (by simp) rfl
                    have c1 := (hb.cell hbr2).trans hc1
                    try simp only [u13, u9]
                    go_wp2_with fail
                    exact ⟨rfl, _, rfl, Below.refl _ _, rfl⟩
                  refine HSteps.cons ?_ ?_
                  · intro f w' hb hU
                    simp only [putAll, List.foldl_cons, List.foldl_nil]
                    go_frame
                    obtain u14 : f 135 = .slice pA pn pc := hU.get ⟨14, .data⟩ (by simp) rfl
                    obtain u9 : f 130 = .bool false := hU.get ⟨9, .guard⟩ (by simp) rfl
                    have cv := run_str (RB.below hrb hb) 25 9 5 pc Tryd.underlying25 Tryd.underlying5 Tryd.underlying9
                    try simp only [u14, u9]
                    go_wp2_with fail
                    exact ⟨rfl, _, rfl, Below.refl _ _, rfl⟩
                  refine HSteps.cons ?_ ?_
                  · intro f w' hb hU
                    simp only [putAll, List.foldl_cons, List.foldl_nil]
                    go_frame
                    obtain u9 : f 130 = .bool false := hU.get ⟨9, .guard⟩ (by simp) rfl
                    try simp only [u9]
                    go_wp2_with fail
                    exact ⟨rfl, _, rfl, Below.refl _ _, rfl⟩
                  refine HSteps.cons ?_ ?_
                  · intro f w' hb hU
                    simp only [putAll, List.foldl_cons, List.foldl_nil]
                    go_frame
                    obtain u16 : f 137 = .int .i64 j := hU.get ⟨16, .data⟩ (by simp) rfl
                    obtain u9 : f 130 = .bool false := hU.get ⟨9, .guard⟩ (by simp) rfl
                    try simp only [u16, u9]
                    go_wp2_with fail
                    exact ⟨rfl, _, rfl, Below.refl _ _, rfl⟩
                  refine HSteps.cons ?_ ?_
                  · intro f w' hb hU
                    simp only [putAll, List.foldl_cons, List.foldl_nil]
                    go_frame
                    obtain u17 : f 138 = .pointer (some ⟨w.heap.size, j * 4, none⟩) := hU.get ⟨17, .data⟩ (by simp) rfl
                    obtain u9 : f 130 = .bool false := hU.get ⟨9, .guard⟩ (by simp) rfl
                    have c0 := (hb.cell hbb).trans C0
                    have c1 := (hb.cell hbb).trans C1
                    have c2 := (hb.cell hbb).trans C2'
                    have c3 := (hb.cell hbb).trans C3
                    try simp only [u17, u9]
                    go_wp2_with fail
                    exact ⟨rfl, _, rfl, Below.refl _ _, rfl⟩
                  refine HSteps.cons ?_ ?_
                  · intro f w' hb hU
                    simp only [putAll, List.foldl_cons, List.foldl_nil]
                    go_frame
                    obtain u18 : f 139 = x.val := hU.get ⟨18, .data⟩ (by simp) rfl
                    obtain u9 : f 130 = .bool false := hU.get ⟨9, .chain⟩ (by simp) rfl
                    have R := HP.out w'
                    try simp only [u18, u9]
                    go_wp2_with fail
                    refine (R).mono ?_
                    rintro e w3 ⟨gp, rfl, hgp, b3⟩
                    go_wp2_with fail
                    exact ⟨rfl, _, rfl, b3, gp, rfl, hgp⟩
                  refine HSteps.cons ?_ ?_
                  · intro f w' hb hU
                    simp only [putAll, List.foldl_cons, List.foldl_nil]
                    go_frame
                    obtain ⟨gp, u19, v19_0⟩ : ∃ (gp : Nat), f 140 = .slice (some ⟨gp, 0, none⟩) pl pl ∧ RB w' (some ⟨gp, 0, none⟩) pl pay := hU.get ⟨19, .data⟩ (by simp) rfl
                    obtain u9 : f 130 = .bool false := hU.get ⟨9, .guard⟩ (by simp) rfl
                    have cv := run_str (v19_0) 25 9 5 pl Tryd.underlying25 Tryd.underlying5 Tryd.underlying9
                    try simp only [u19, u9]
                    go_wp2_with fail
                    exact ⟨rfl, _, rfl, Below.refl _ _, rfl⟩
                  refine HSteps.cons ?_ ?_
                  · intro f w' hb hU
                    simp only [putAll, List.foldl_cons, List.foldl_nil]
                    go_frame
                    obtain u15 : f 136 = .string ⟨pay.toArray⟩ := hU.get ⟨15, .data⟩ (by simp) rfl
                    obtain u20 : f 141 = .string ⟨pay.toArray⟩ := hU.get ⟨20, .data⟩ (by simp) rfl
                    obtain u9 : f 130 = .bool false := hU.get ⟨9, .guard⟩ (by simp) rfl
                    try simp only [u15, u20, u9]
                    go_wp2_with fail
                    exact ⟨rfl, _, rfl, Below.refl _ _, rfl⟩
                  refine HSteps.cons ?_ ?_
                  · intro f w' hb hU
                    obtain u9 : f 130 = .bool false := hU.get ⟨9, .data⟩ (by simp) rfl
                    obtain u21 : f 142 = .bool false := hU.get ⟨21, .data⟩ (by simp) rfl
                    simp only [putAll, List.foldl_cons, List.foldl_nil]
                    go_frame
                    try simp only [u9, u21]
                    go_wp2_with fail
                    exact ⟨rfl, _, rfl, Below.refl _ _, rfl⟩
                  refine HSteps.cons ?_ ?_
                  · intro f w' hb hU
                    obtain u22 : f 143 = .bool false := hU.get ⟨22, .data⟩ (by simp) rfl
                    obtain ⟨gp, u19, v19_0⟩ : ∃ (gp : Nat), f 140 = .slice (some ⟨gp, 0, none⟩) pl pl ∧ RB w' (some ⟨gp, 0, none⟩) pl pay := hU.get ⟨19, .chain⟩ (by simp) rfl
                    simp only [putAll, List.foldl_cons, List.foldl_nil]
                    go_frame
                    try simp only [u22, u19]
                    go_wp2_with fail
                    exact ⟨rfl, _, rfl, Below.refl _ _, rfl⟩
                  refine HSteps.cons ?_ ?_
                  · intro f w' hb hU
                    simp only [putAll, List.foldl_cons, List.foldl_nil]
                    go_frame
                    obtain u23 : f 144 = .bool false := hU.get ⟨23, .guard⟩ (by simp) rfl
                    obtain ⟨x0', x1', x2', x3', x4', x5'⟩ := (k12.keep hb).c6
                    try simp only [u23]
                    go_wp2_with fail
                    exact ⟨rfl, _, rfl, Below.refl _ _, rfl⟩
                  refine HSteps.cons ?_ ?_
                  · intro f w' hb hU
                    simp only [putAll, List.foldl_cons, List.foldl_nil]
                    go_frame
                    obtain u24 : f 145 = l'.v := hU.get ⟨24, .data⟩ (by simp) rfl
                    obtain u23 : f 144 = .bool false := hU.get ⟨23, .chain⟩ (by simp) rfl
                    have R := HN1.out w'
                    try simp only [u24, u23]
                    go_wp2_with fail
                    refine (R).mono ?_
                    rintro e w3 ⟨rfl, b3⟩
                    go_wp2_with fail
                    exact ⟨rfl, _, rfl, b3, rfl⟩
                  refine HSteps.cons ?_ ?_
                  · intro f w' hb hU
                    simp only [putAll, List.foldl_cons, List.foldl_nil]
                    go_frame
                    obtain u23 : f 144 = .bool false := hU.get ⟨23, .guard⟩ (by simp) rfl
                    obtain ⟨x0', x1', x2', x3', x4', x5'⟩ := (kl3.keep hb).c6
                    try simp only [u23]
                    go_wp2_with fail
                    exact ⟨rfl, _, rfl, Below.refl _ _, rfl⟩
                  refine HSteps.cons ?_ ?_
                  · intro f w' hb hU
                    simp only [putAll, List.foldl_cons, List.foldl_nil]
                    go_frame
                    obtain u26 : f 147 = l.v := hU.get ⟨26, .data⟩ (by simp) rfl
                    obtain u25 : f 146 = .int .u64 l'.nx := hU.get ⟨25, .chain⟩ (by simp) rfl
                    obtain u23 : f 144 = .bool false := hU.get ⟨23, .guard⟩ (by simp) rfl
                    have R := HNx.out w'
                    try simp only [u26, u25, u23]
                    go_wp2_with fail
                    refine (R).mono ?_
                    rintro e w3 ⟨rfl, b3⟩
                    go_wp2_with fail
                    exact ⟨rfl, _, rfl, b3, rfl⟩
                  refine HSteps.cons ?_ ?_
                  · intro f w' hb hU
                    simp only [putAll, List.foldl_cons, List.foldl_nil]
                    go_frame
                    obtain u27 : f 148 = .int .u64 l.nx := hU.get ⟨27, .data⟩ (by simp) rfl
                    obtain u23 : f 144 = .bool false := hU.get ⟨23, .guard⟩ (by simp) rfl
                    try simp only [u27, u23]
                    go_wp2_with fail
                    exact ⟨rfl, _, rfl, Below.refl _ _, rfl⟩
                  refine HSteps.cons ?_ ?_
                  · intro f w' hb hU
                    simp only [putAll, List.foldl_cons, List.foldl_nil]
                    go_frame
                    obtain u25 : f 146 = .int .u64 l'.nx := hU.get ⟨25, .data⟩ (by simp) rfl
                    obtain u28 : f 149 = .int .u64 l'.nx := hU.get ⟨28, .data⟩ (by simp) rfl
                    obtain u23 : f 144 = .bool false := hU.get ⟨23, .guard⟩ (by simp) rfl
                    try simp only [u25, u28, u23]
                    go_wp2_with fail
                    exact ⟨rfl, _, rfl, Below.refl _ _, rfl⟩
                  refine HSteps.cons ?_ ?_
                  · intro f w' hb hU
                    obtain u23 : f 144 = .bool false := hU.get ⟨23, .data⟩ (by simp) rfl
                    obtain u29 : f 150 = .bool false := hU.get ⟨29, .data⟩ (by simp) rfl
                    simp only [putAll, List.foldl_cons, List.foldl_nil]
                    go_frame
                    try simp only [u23, u29]
                    go_wp2_with fail
                    exact ⟨rfl, _, rfl, Below.refl _ _, rfl⟩
                  exact HSteps.nil
                case grow =>
                  intro kq u wa wb hb hu
                  rcases kq with _ | _ | _ | _ | _ | _ | _ | _ | _ | _ | _ | _ | _ | _ | _ | _ | _ | _ | _ | _ | _ | _ | _ | _ | _ | _ | _ | _ | _ | _ | _ | kq
                  · exact hu
                  · exact hu
                  · exact hu
                  · exact hu
                  · exact hu
                  · exact hu
                  · exact hu
                  · exact hu
                  · exact hu
                  · exact hu
                  · exact hu
                  · exact hu
                  · exact hu
                  · exact hu
                  · exact hu
                  · exact hu
                  · exact hu
                  · exact hu
                  · exact hu
                  · obtain ⟨gp, ue, uf0⟩ := hu
                    exact ⟨gp, ue, uf0.below hb⟩
                  · exact hu
                  · exact hu
                  · exact hu
                  · exact hu
                  · exact hu
                  · exact hu
                  · exact hu
                  · exact hu
                  · exact hu
                  · exact hu
                  · exact hu
                  · trivial
                case tail =>
                  intro f w7 hb7 hU
                  obtain u30 : f 151 = .bool false := hU.get 30 (by decide)
                  simp only [List.drop_succ_cons, List.drop_zero, putAll, List.foldl_cons, List.foldl_nil]
                  go_frame
                  simp only [u30]
                  clear u30
                  clear hU
                  replace hbr := hbr.trans (hb7.mono hbr.size)
                  clear hb7 C0 C1 C2' C3
                  go_wp2_with fail
                  go_roundw
                  case rel => exact ⟨j + 1, by omega, by go_num, hbr⟩
                  case measure => simp [intOf]; omega
              · obtain rfl : j = 2 := by omega
                obtain ⟨l', ho, hf, hnx0, hle20, hlk'⟩ := HO0.out
                have HE1 := hid hnx0
                have HE2 := hid hle20
                clear hnx0 hle20
                obtain ⟨x0, x1, x2, x3, x4⟩ := kd3.k.c5
                have hG7 := kd3.k.lt
                go_wp2_with fail
                have R := wopen_any d D 2 q wr kd3.d (HTb.out.keep C4) hk2 (by omega)
                rw [ho, hf] at R
                unfold wopenE at R
                dsimp only at R
                rw [show ((2 : Nat) : Int) = 2 from rfl] at R
                simp only [DV.v] at R
                refine R.mono ?_
                clear R ho hf x0 x1 x2 x3 x4
                rintro e w10 ⟨⟨sA, sn, sc⟩, rfl, hrr, b10⟩
                have hen := hrr.e
                rw [recsAt_len, List.length_map] at hen
                dsimp only at hen
                subst hen
                clear hrr
                replace kl3 := kl3.keep b10
                replace C4 := C4.trans (b10.mono C4.size)
                clear b10 kd3 kB3
                have hs10 := C4.size
                have hG8 := kl3.lt
                simp only [Sl.v, Lg.v]
                go_wp2_with (first
                  | ((with_reducible refine is_alloc 44 ?_); refine wp_allocB (w := w10) _ arrLog ?_; intro w11 k11 b11 s11; go_frame)
                  | ((with_reducible refine is_store 44 ?_); refine wp_storeB w10.heap.size _ _ l'.cs k11 logN rfl (lg_one _) rfl rfl ?_; intro w12 k12 r12; go_frame))
                replace kl3 := (kl3.keep b11).grown r12 (by simp; omega)
                have C4a := C4.trans (b11.mono C4.size)
                replace C4 := C4a.grown r12 C4a.size (fun z hz => by cases hz; exact hs10)
                clear b11 s11 k11 r12 C4a
                generalize w10.heap.size = g25 at *
                have ga := fun x : Ext w12 => (k12.keep x.h).c6
                have ga0 := fun x => (ga x).1
                have ga1 := fun x => (ga x).2.1
                have ga2 := fun x => (ga x).2.2.1
                have ga3 := fun x => (ga x).2.2.2.1
                have ga4 := fun x => (ga x).2.2.2.2.1
                have ga5 := fun x => (ga x).2.2.2.2.2
                try dsimp only at ga0 ga1 ga2 ga3 ga4 ga5
                clear ga
                have gb := fun x : Ext w12 => (kl3.keep x.h).c6
                have gb0 := fun x => (gb x).1
                have gb1 := fun x => (gb x).2.1
                have gb2 := fun x => (gb x).2.2.1
                have gb3 := fun x => (gb x).2.2.2.1
                have gb4 := fun x => (gb x).2.2.2.2.1
                have gb5 := fun x => (gb x).2.2.2.2.2
                try dsimp only at gb0 gb1 gb2 gb3 gb4 gb5
                clear gb
                have N1 := fun wx => next_any l' wx
                have N2 := fun wx => next_any l wx
                have N3 := fun wx => room_any l' wx hlk'
                have N4 := fun wx => room_any l wx hlk.out
                rw [HE1.out] at N1
                rw [Lg.room_of, HE2.out] at N3
                rw [Lg.room_of] at N4
                generalize roomOf l.left = rmm at N3 N4
                unfold Lg.v at N1 N2 N3 N4
                have HN1 := hid N1
                have HN2 := hid N2
                have HN3 := hid N3
                have HN4 := hid N4
                have HAW := hid (fun (wx : World) (hb : Below w12.heap.size w12 wx) => awake_any wx (HTb.out.keep (C4.trans (hb.mono C4.size))))
                have y1 : ((l.nx : Int) == (l.nx : Int)) = true := beq_self_eq_true _
                have y2 : ((rs.length : Int) == (rs.length : Int)) = true := beq_self_eq_true _
                have y3 : (rmm == rmm) = true := beq_self_eq_true _
                clear N1 N2 N3 N4 k12 kl3 hG8 hG7
                (refine wp_region_ext (by kernel_rfl) (by kernel_rfl) ?_; (repeat (go_big_quiet_step ((first | with_reducible exact Ext.calls _ (HN1.out _) | with_reducible exact Ext.calls _ (HN2.out _) | with_reducible exact Ext.calls _ (HN3.out _) | with_reducible exact Ext.calls _ (HN4.out _) | with_reducible exact Ext.calls _ (HAW.out _ (Ext.h _)))))); refine wpQuiet_nil ?_; rintro _ ⟨y9, rfl⟩)
                have C := C4.trans (y9.h.mono C4.size)
                go_wp2_with fail
                go_ret
                exact ⟨rfl, C⟩
end Go.Proofs.YtlokfndonjldpaaDoor

