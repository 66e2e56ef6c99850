/- The walk of PagerDoes. Conditions: the table of remainders is laid; the arguments read. -/
import Derived.Test.YtanglofabkbllaaDoorLaw
set_option linter.unusedSimpArgs false
set_option linter.unusedVariables false
namespace Go.Proofs.YtanglofabkbllaaDoor
open Go.RowKit

set_option maxRecDepth 100000 in
set_option maxHeartbeats 16000000 in
theorem does_walk (n0 s0 : Nat) (A : Option Addr) (m c : Nat) (X : List Ac) (w : World) (hT : Tab w) (hn0 : n0 ≤ 255) (hs0 : s0 ≤ 255) (hX : X.length = m) (hr : RL w 5 A m (X.flatMap Ac.cs)) (hok : ∀ x ∈ X, x.ok) (hmc : m ≤ c) (hcm : c ≤ 9223372036854775807) :
    Calls Tryd.prog 7 #[.int .u8 n0, .int .u8 s0, .slice A m c] w fun e w' => e = .returned (.bool true) ∧ Below w.heap.size w w' := by
  have HTb := hid hT
  have HR := hid hr
  have HX := hid hX
  have HOK := hid hok
  have FW := few_any A m c X w hX hr hmc hcm
  clear hT hr hX hok
  go_enter Tryd.func7, Tryd.ntmps7
  go_wp2_with fail
  cases hf : fewB X with
  | false =>
    rw [hf] at FW
    refine FW.mono ?_
    rintro e w1 ⟨rfl, B⟩
    go_wp2_with fail
    refine (awake_any w1 (HTb.out.keep B)).mono ?_
    rintro e w2 ⟨rfl, b2⟩
    go_wp2_with fail
    go_ret
    exact ⟨rfl, B.trans (b2.mono B.size)⟩
  | true =>
    rw [hf] at FW
    have HF := hid (few_yes hf)
    refine FW.mono ?_
    rintro e w1 ⟨rfl, B⟩
    clear FW hf
    obtain ⟨nn, hnn⟩ : ∃ z, n0 % 6 = z := ⟨_, rfl⟩
    obtain ⟨sc, hsc⟩ : ∃ z, s0 % 4 = z := ⟨_, rfl⟩
    have q1 : (n0 : Int).tmod 6 = (nn : Int) := by rw [Int.tmod_eq_emod_of_nonneg (by omega)]; omega
    have q2 : (s0 : Int).tmod 4 = (sc : Int) := by rw [Int.tmod_eq_emod_of_nonneg (by omega)]; omega
    have h1 : nn < 6 := by omega
    have h2 : sc < 4 := by omega
    clear hnn hsc
    obtain ⟨q, hq⟩ : ∃ z, nn + 1 = z := ⟨_, rfl⟩
    have q3 := IntWalk.i64_in (nn : Int) (by omega)
    have q4 : (nn : Int) + 1 = (q : Int) := by omega
    have q5 := IntWalk.i64_in (q : Int) (by omega)
    have q6 := IntWalk.i64_in (sc : Int) (by omega)
    have hq1 : 1 ≤ q ∧ q ≤ 6 := by omega
    clear hq h1
    go_wp2_with fail
    refine (begin_any (M := fun _ => True) q sc w1 (HTb.out.keep B) (fun _ _ => trivial) hq1.1 (by omega) (by omega)).mono ?_
    rintro e w2 ⟨F, x, D, rfl, H, b2⟩
    have B2 := B.trans (b2.mono B.size)
    clear b2 B
    have hp := H.sim.pok
    have HH := hid (H.lt.mono (M' := fun b => b ≠ w2.heap.size) (fun b hb => Nat.ne_of_lt hb.2))
    clear H q1 q2 q3 q4 q5 q6
    go_wp2_with (first
      | ((with_reducible refine is_alloc 63 ?_); refine wp_allocB (w := w2) _ arrSto ?_; intro w3 k3 b3 s3; go_frame)
      | ((with_reducible refine is_store 63 ?_); refine wp_storeT w2.heap.size _ x hp k3 (by rw [StV.cs_len Pgr.zero_ok]) rfl rfl ?_; intro w4 k4 r4; go_frame; have l4 := k4.lt)
      | ((with_reducible refine is_load 37 ?_); refine wp_loadTPg w2.heap.size x hp k4 rfl rfl ?_; go_frame)
      | ((with_reducible refine is_load 60 ?_); refine wp_loadTVg w2.heap.size x hp k4 rfl rfl ?_; go_frame))
    have hgz := B2.size
    have ba : Below w2.heap.size w2 w4 := b3.grown r4 b3.size (fun z hz => by cases hz; exact Nat.le_refl _)
    have B4 := B2.trans (ba.mono B2.size)
    replace HH := hid (HH.out.keep ba)
    clear b3 s3 k3 r4 ba B2
    generalize w2.heap.size = G at *
    refine (is_any x.p x.v D (RS.new q) w4 (HTb.out.keep B4) HH.out.sim HH.out.d HH.out.v).mono ?_
    rintro e w5 ⟨rfl, b5⟩
    replace HH := hid (HH.out.keep b5)
    have B5 := B4.trans (b5.mono B4.size)
    have k5 := k4.keep b5
    clear k4 b5 B4 l4
    have hm30 := HF.out.1
    rw [HX.out] at hm30
    go_wp2_with fail
    go_loopw [40] (fun i wr => ∃ (k : Nat) (x : StV) (D : Dk) (S : RS), k ≤ m ∧ i = .int .i64 k ∧ Blk wr G 63 x.cs ∧ Hid (Sto F k sc q (sc + 8 * (q + 2) + 1) (fun b => b ≠ G) wr x D S) ∧ Below w.heap.size w wr) (fun i _ => m - (intOf i).toNat)
    case atStart => exact ⟨0, x, D, RS.new q, Nat.zero_le _, rfl, k5, HH, B5⟩
    case round =>
      clear HH B5 k5 hp
      obtain ⟨k, x, D, S, hk, rfl, kx, HH, hbel⟩ := hrel
      by_cases hlt : k < m
      · obtain ⟨b, off, a, rfl, hbb, hx, hcell⟩ := (HR.out.below hbel).el (f := Ac.cs) (fun _ => rfl) hlt (by omega)
        have C0 := hcell 0 _ rfl
        have C1 := hcell 1 _ rfl
        have C2 := hcell 2 _ rfl
        have C3 := hcell 3 _ rfl
        have C4 := hcell 4 _ rfl
        rw [Nat.add_zero] at C0
        have hmem := List.mem_of_getElem? hx
        have HA := hid (And.intro (HOK.out a hmem) (HF.out.2 a hmem))
        clear hcell hx hmem
        have tk : (k : Int) < (m : Int) := by omega
        have hp := HH.out.sim.pok
        have hgr : G < wr.heap.size := kx.lt
        go_wp2_with (first
          | ((with_reducible refine is_alloc 66 ?_); refine wp_allocB (w := wr) _ arrAct ?_; intro w5 k5 b5 s5; go_frame)
          | ((with_reducible refine is_store 66 ?_); refine wp_storeB wr.heap.size _ _ a.cs k5 actN rfl (ac_one _) rfl rfl ?_; intro w6 k6 r6; go_frame; obtain ⟨a0, a1, a2, a3, a4⟩ := k6.c5; have l6 := k6.lt; have kx6 := (kx.keep b5).grown r6 (by simp; omega))
          | ((with_reducible refine is_load 63 ?_); refine wp_loadT G x hp kx6 rfl ?_; go_frame))
        have ba : Below wr.heap.size wr w6 := b5.grown r6 b5.size (fun z hz => by cases hz; exact Nat.le_refl _)
        have B6 := hbel.trans (ba.mono hbel.size)
        replace HH := hid (HH.out.keep ba)
        clear b5 s5 k5 r6 ba a0 a1 a2 a3 a4 C0 C1 C2 C3 C4 hbel kx l6 k6
        refine (do_any x a D S w6 (HTb.out.keep B6) HH.out (fun b hb => by have := kx6.lt; omega) (by omega) HA.out.1 HA.out.2).mono ?_
        rintro e w7 ⟨y, D', S', rfl, HY0, b7⟩
        have HY := hid HY0
        have hpy := HY0.sim.pok
        have B7 := B6.trans (b7.mono B6.size)
        replace HH := hid (HH.out.keep b7)
        have kx7 := kx6.keep b7
        clear HY0 b7 B6 kx6
        have lx7 := kx7.lt
        go_wp2_with (first
          | ((with_reducible refine is_alloc 63 ?_); refine wp_allocB (w := w7) _ arrSto ?_; intro w8 k8 b8 s8; go_frame)
          | ((with_reducible refine is_store 63 ?_); refine wp_storeT w7.heap.size _ y hpy k8 (by rw [StV.cs_len Pgr.zero_ok]) rfl rfl ?_; intro w9 ky9 r9; go_frame; have ly9 := ky9.lt)
          | ((with_reducible refine is_load 37 ?_); refine wp_loadTPg w7.heap.size y hpy ky9 rfl rfl ?_; go_frame)
          | ((with_reducible refine is_load 60 ?_); refine wp_loadTVg w7.heap.size y hpy ky9 rfl rfl ?_; go_frame))
        have hgz7 := B7.size
        have ba : Below w7.heap.size w7 w9 := b8.grown r9 b8.size (fun z hz => by cases hz; exact Nat.le_refl _)
        have B9 := B7.trans (ba.mono B7.size)
        replace HH := hid (HH.out.keep ba)
        replace HY := hid (HY.out.keep ba)
        have kx9 := kx7.keep ba
        clear b8 s8 k8 r9 ba B7 kx7
        generalize w7.heap.size = G2 at *
        refine (is_any y.p y.v D' S' w9 (HTb.out.keep B9) HY.out.sim HY.out.d HY.out.v).mono ?_
        rintro e w10 ⟨rfl, b10⟩
        have B10 := B9.trans (b10.mono B9.size)
        replace HH := hid (HH.out.keep b10)
        replace HY := hid (HY.out.keep b10)
        have kx10 := kx9.keep b10
        have ky10 := ky9.keep b10
        clear b10 B9 kx9 ky9 ly9
        have lx10 := kx10.lt
        have ly10 := ky10.lt
        go_wp2_with (first
          | ((with_reducible refine is_load 37 ?_); refine wp_loadTPg G x hp kx10 rfl rfl ?_; go_frame)
          | ((with_reducible refine is_load 60 ?_); refine wp_loadTVg G x hp kx10 rfl rfl ?_; go_frame))
        refine (is_any x.p x.v D S w10 (HTb.out.keep B10) HH.out.sim HH.out.d HH.out.v).mono ?_
        rintro e w11 ⟨rfl, b11⟩
        have B11 := B10.trans (b11.mono B10.size)
        replace HY := hid (HY.out.keep b11)
        have kx11 := kx10.keep b11
        have ky11 := ky10.keep b11
        clear b11 B10 kx10 ky10 lx10 ly10
        have lx11 := kx11.lt
        have ly11 := ky11.lt
        go_wp2_with (first
          | ((with_reducible refine is_load 63 ?_); refine wp_loadT G2 y hpy ky11 rfl ?_; go_frame)
          | ((with_reducible refine is_store 63 ?_); refine wp_storeT G _ y hpy kx11 (StV.cs_len hp) rfl rfl ?_; intro w12 kx12 r12; go_frame))
        have hgw : w.heap.size ≤ G := hgz
        have B12 := B11.grown r12 B11.size (fun z hz => by cases hz; exact hgw)
        have HY12 := HY.out.var r12 kx11 notSto (fun h => h rfl)
        go_roundw
        case measure => simp [intOf]; omega
        case rel => exact ⟨k + 1, y, D', S', by omega, by go_num, kx12, hid HY12, B12⟩
      · obtain rfl : k = m := by omega
        go_wp2_with fail
        refine (awake_any wr (HTb.out.keep hbel)).mono ?_
        rintro e w2 ⟨rfl, b2⟩
        go_wp2_with fail
        go_ret
        exact ⟨rfl, hbel.trans (b2.mono hbel.size)⟩
end Go.Proofs.YtanglofabkbllaaDoor
