/- The walk of PagerEmpties. Conditions: the table of remainders is laid; the arguments read. -/
import Derived.Test.YtanglofabkbllaaDoorLaw
set_option linter.unusedSimpArgs false
set_option linter.unusedVariables false
namespace Go.Proofs.YtanglofabkbllaaDoor
open Go.RowKit

theorem free_nowB {S : RS} (h : S.ok) {id : Nat} (hi : id ≤ S.n) (i : Nat) : (S.free id).nowB i = if i = id then false else S.nowB i := by
  unfold RS.nowB RS.free
  dsimp only
  rw [List.getElem?_set]
  have := h.k
  by_cases e : i = id
  · rw [if_pos e.symm, if_pos (by omega), if_pos e]; rfl
  · rw [if_neg (fun x => e x.symm), if_neg e]
theorem alloc_nowB {S : RS} (h : S.ok) {id : Nat} (hi : id ≤ S.n) (l : List UInt8) (i : Nat) : (S.alloc id l).nowB i = if i = id then true else S.nowB i := by
  unfold RS.nowB RS.alloc
  dsimp only
  rw [List.getElem?_set]
  have := h.k
  by_cases e : i = id
  · rw [if_pos e.symm, if_pos (by omega), if_pos e]; rfl
  · rw [if_neg (fun x => e x.symm), if_neg e]
theorem empty_room {S : RS} (h : ∀ i, S.nowB i = false) (h2 : ∀ i, S.usedB i = false) : ∀ k, S.roomC k = k
  | 0 => rfl
  | k + 1 => by rw [RS.roomC_succ, empty_room h h2 k, h, h2]; rfl
theorem empty_now {S : RS} (h : ∀ i, S.nowB i = false) (k : Nat) : S.nowL k = [] := by
  unfold RS.nowL
  rw [List.filter_eq_nil_iff]
  intro i _
  rw [h i]
  simp
/-- what the frees have left -/
def Left (n : Nat) (L : List Nat) (S : RS) : Prop := S.n = n ∧ ∀ j, S.nowB j = true ↔ j ∈ L
/-- the first j pages are in use, none is committed -/
def Upto (n j : Nat) (S : RS) : Prop := S.n = n ∧ (∀ i, S.usedB i = false) ∧ ∀ i, S.nowB i = true ↔ 1 ≤ i ∧ i ≤ j
theorem Left.next {n id : Nat} {L : List Nat} {S : RS} (h : Left n (id :: L) S) (ok : S.ok) (hn : id ∉ L) (hi : id ≤ n) : Left n L (S.free id) := by
  refine ⟨h.1, fun j => ?_⟩
  rw [free_nowB ok (by rw [h.1]; exact hi)]
  by_cases e : j = id
  · rw [if_pos e, e]
    exact ⟨fun h => (by cases h), fun h => absurd h hn⟩
  · rw [if_neg e, h.2, List.mem_cons]
    exact ⟨fun h => h.resolve_left e, .inr⟩
theorem Upto.first {n j : Nat} {S : RS} (h : Upto n j S) (hj : j < n) : S.first (j + 1) := by
  have hb : S.nowB (j + 1) = false := by
    cases e : S.nowB (j + 1) with
    | false => rfl
    | true => have := ((h.2.2 _).1 e).2; omega
  refine ⟨⟨by omega, by rw [h.1]; omega, hb, h.2.1 _⟩, fun i hi => ?_⟩
  rcases Nat.lt_or_ge i (j + 1) with h1 | h1
  · have := (h.2.2 i).2 ⟨hi.1, by omega⟩
    rw [hi.2.2.1] at this
    cases this
  · exact h1
theorem Upto.next {n j : Nat} {S : RS} {l : List UInt8} (h : Upto n j S) (ok : S.ok) (hj : j < n) : Upto n (j + 1) (S.alloc (j + 1) l) := by
  refine ⟨h.1, h.2.1, fun i => ?_⟩
  rw [alloc_nowB ok (by rw [h.1]; omega)]
  by_cases e : i = j + 1
  · rw [if_pos e]
    exact ⟨fun _ => by omega, fun _ => rfl⟩
  · rw [if_neg e, h.2.2]
    omega

set_option maxRecDepth 100000 in
set_option maxHeartbeats 16000000 in
theorem empties_walk (n0 : Nat) (A : Option Addr) (m c : Nat) (X : List Ac) (w : World) (hT : Tab w) (hn0 : n0 ≤ 255) (hX : X.length = m) (hr : RL w 5 A m (X.flatMap Ac.cs)) (hok : ∀ x ∈ X, x.ok) (hmc : m ≤ c) (hcm : c ≤ 9223372036854775807) :
    Calls Tryd.prog 5 #[.int .u8 n0, .slice A m c] w fun e w' => e = .returned (.bool true) ∧ Below w.heap.size w w' := by
  have HTb := hid hT
  have HR := hid hr
  have HX := hid hX
  have HOK := hid hok
  have FW := few_any A m c X w hX hr hmc hcm
  clear hT hr hX hok
  go_enter Tryd.func5, Tryd.ntmps5
  go_wp2_with fail
  cases hf : fewB X with
  | false =>
    rw [hf] at FW
    refine FW.mono ?_
    rintro e w1 ⟨rfl, B⟩
    go_wp2_with fail
    refine (awake_any w1 (HTb.out.keep B)).mono ?_
    rintro e w2 ⟨rfl, b2⟩
    go_wp2_with fail
    go_ret
    exact ⟨rfl, B.trans (b2.mono B.size)⟩
  | true =>
    rw [hf] at FW
    have HF := hid (few_yes hf)
    refine FW.mono ?_
    rintro e w1 ⟨rfl, B⟩
    clear FW hf
    obtain ⟨nn, hnn⟩ : ∃ z, n0 % 6 = z := ⟨_, rfl⟩
    have q1 : (n0 : Int).tmod 6 = (nn : Int) := by rw [Int.tmod_eq_emod_of_nonneg (by omega)]; omega
    have h1 : nn < 6 := by omega
    clear hnn
    obtain ⟨q, hq⟩ : ∃ z, nn + 1 = z := ⟨_, rfl⟩
    have q3 := IntWalk.i64_in (nn : Int) (by omega)
    have q4 : (nn : Int) + 1 = (q : Int) := by omega
    have q5 := IntWalk.i64_in (q : Int) (by omega)
    have hq1 : 1 ≤ q ∧ q ≤ 6 := by omega
    clear hq h1
    go_wp2_with fail
    have R := begin_any (M := fun _ => True) q 2 w1 (HTb.out.keep B) (fun _ _ => trivial) hq1.1 (by omega) (by omega)
    try rw [show ((2 : Nat) : Int) = 2 from rfl] at R
    refine R.mono ?_
    clear R
    rintro e w2 ⟨F, x, D, rfl, H, b2⟩
    have B2 := B.trans (b2.mono B.size)
    clear b2 B
    have hp := H.sim.pok
    have HH := hid (H.lt.mono (M' := fun b => b ≠ w2.heap.size) (fun b hb => Nat.ne_of_lt hb.2))
    clear H q1 q3 q4 q5
    generalize 2 + 8 * (q + 2) + 1 = N at HH
    go_wp2_with (first
      | ((with_reducible refine is_alloc 63 ?_); refine wp_allocB (w := w2) _ arrSto ?_; intro w3 k3 b3 s3; go_frame)
      | ((with_reducible refine is_store 63 ?_); refine wp_storeT w2.heap.size _ x hp k3 (by rw [StV.cs_len Pgr.zero_ok]) rfl rfl ?_; intro w4 k4 r4; go_frame; have l4 := k4.lt))
    have hgz := B2.size
    have ba : Below w2.heap.size w2 w4 := b3.grown r4 b3.size (fun z hz => by cases hz; exact Nat.le_refl _)
    have B4 := B2.trans (ba.mono B2.size)
    replace HH := hid (HH.out.keep ba)
    clear b3 s3 k3 r4 ba B2
    generalize w2.heap.size = G at *
    have hm30 := HF.out.1
    rw [HX.out] at hm30
    go_wp2_with fail
    go_loopw [36] (fun i wr => ∃ (k : Nat) (x : StV) (D : Dk) (S : RS), k ≤ m ∧ i = .int .i64 k ∧ Blk wr G 63 x.cs ∧ Hid (Sto F k 2 q N (fun b => b ≠ G) wr x D S) ∧ Below w.heap.size w wr) (fun i _ => m - (intOf i).toNat)
    case atStart => exact ⟨0, x, D, RS.new q, Nat.zero_le _, rfl, k4, HH, B4⟩
    case round =>
      clear HH B4 k4 hp
      obtain ⟨k, x, D, S, hk, rfl, kx, HH, hbel⟩ := hrel
      by_cases hlt : k < m
      · obtain ⟨b, off, a, rfl, hbb, hx, hcell⟩ := (HR.out.below hbel).el (f := Ac.cs) (fun _ => rfl) hlt (by omega)
        have C0 := hcell 0 _ rfl
        have C1 := hcell 1 _ rfl
        have C2 := hcell 2 _ rfl
        have C3 := hcell 3 _ rfl
        have C4 := hcell 4 _ rfl
        rw [Nat.add_zero] at C0
        have hmem := List.mem_of_getElem? hx
        have HA := hid (And.intro (HOK.out a hmem) (HF.out.2 a hmem))
        clear hcell hx hmem
        have tk : (k : Int) < (m : Int) := by omega
        have hp := HH.out.sim.pok
        have hgr : G < wr.heap.size := kx.lt
        go_wp2_with (first
          | ((with_reducible refine is_alloc 66 ?_); refine wp_allocB (w := wr) _ arrAct ?_; intro w5 k5 b5 s5; go_frame)
          | ((with_reducible refine is_store 66 ?_); refine wp_storeB wr.heap.size _ _ a.cs k5 actN rfl (ac_one _) rfl rfl ?_; intro w6 k6 r6; go_frame; obtain ⟨a0, a1, a2, a3, a4⟩ := k6.c5; have l6 := k6.lt; have kx6 := (kx.keep b5).grown r6 (by simp; omega))
          | ((with_reducible refine is_load 63 ?_); refine wp_loadT G x hp kx6 rfl ?_; go_frame))
        have ba : Below wr.heap.size wr w6 := b5.grown r6 b5.size (fun z hz => by cases hz; exact Nat.le_refl _)
        have B6 := hbel.trans (ba.mono hbel.size)
        replace HH := hid (HH.out.keep ba)
        clear b5 s5 k5 r6 ba a0 a1 a2 a3 a4 C0 C1 C2 C3 C4 hbel kx l6 k6
        refine (do_any x a D S w6 (HTb.out.keep B6) HH.out (fun b hb => by have := kx6.lt; omega) (by omega) HA.out.1 HA.out.2).mono ?_
        rintro e w7 ⟨y, D', S', rfl, HY0, b7⟩
        have HY := hid HY0
        have hpy := HY0.sim.pok
        have B7 := B6.trans (b7.mono B6.size)
        have kx7 := kx6.keep b7
        clear HY0 b7 B6 kx6 HH
        have lx7 := kx7.lt
        go_wp2_with ((with_reducible refine is_store 63 ?_); refine wp_storeT G _ y hpy kx7 (StV.cs_len hp) rfl rfl ?_; intro w8 kx8 r8; go_frame)
        have B8 := B7.grown r8 B7.size (fun z hz => by cases hz; exact hgz)
        have HY8 := HY.out.var r8 kx7 notSto (fun h => h rfl)
        go_roundw
        case measure => simp [intOf]; omega
        case rel => exact ⟨k + 1, y, D', S', by omega, by go_num, kx8, hid HY8, B8⟩
      · obtain rfl : k = m := by omega
        have hp := HH.out.sim.pok
        have lx := kx.lt
        go_wp2_with (first
          | ((with_reducible refine is_load 37 ?_); refine wp_loadTPg G x hp kx rfl rfl ?_; go_frame)
          | ((with_reducible refine is_alloc 37 ?_); refine wp_allocB (w := wr) _ arrPgr ?_; intro w5 k5 b5 s5; go_frame)
          | ((with_reducible refine is_store 37 ?_); refine wp_storeP wr.heap.size _ x.p hp k5 (by rw [Pgr.cs_len Pgr.zero_ok]) rfl rfl ?_; intro w6 kp r6; go_frame; have lp := kp.lt)
          | ((with_reducible refine is_load 37 ?_); refine wp_loadP wr.heap.size x.p hp kp rfl ?_; go_frame))
        have ba : Below wr.heap.size wr w6 := b5.grown r6 b5.size (fun z hz => by cases hz; exact Nat.le_refl _)
        have B6 := hbel.trans (ba.mono hbel.size)
        replace HH := hid (HH.out.keep ba)
        have kx6 := kx.keep ba
        have hz9 : G < wr.heap.size := lx
        have hw9 := hbel.size
        clear b5 s5 k5 r6 ba hbel kx lx
        generalize wr.heap.size = G9 at *
        have U := used_any x.p w6 hp
        rw [HH.out.sim.used] at U
        have hqn := HH.out.n
        have hmem : ∀ j, j ∈ S.nowL (S.n + 1) ↔ S.nowB j = true := fun j => by
          unfold RS.nowL
          rw [List.mem_filter, List.mem_range]
          exact ⟨fun h => h.2, fun h => ⟨by have := nowB_in HH.out.sim.sok h; omega, h⟩⟩
        have hnd : (S.nowL (S.n + 1)).Nodup := List.Pairwise.filter _ List.nodup_range
        have hll := S.nowL_le (S.n + 1)
        have hpos : ∀ j, j ∈ S.nowL (S.n + 1) → 1 ≤ j ∧ j ≤ q := fun j hj => by
          have h1 := (hmem j).1 hj
          refine ⟨?_, by rw [← hqn]; exact nowB_in HH.out.sim.sok h1⟩
          rcases Nat.eq_zero_or_pos j with e | e
          · rw [e, HH.out.sim.k0] at h1; cases h1
          · exact e
        have hxn : (x.v.n : Int) = (q : Int) := by rw [HH.out.v.n, hqn]
        generalize S.nowL (S.n + 1) = L at U hmem hnd hll hpos
        rw [hqn] at hll
        have HM := hid (And.intro hmem (And.intro hnd hpos))
        clear hmem hnd hpos
        refine U.mono ?_
        rintro e w7 ⟨v, rfl, hown, b7⟩
        have r80 := fun A c (e : v = .slice A _ c) => RN.own (by rw [← e]; exact hown) (N := fun b => b ≠ G9) (fun b hb => by have := kp.lt; omega)
        obtain ⟨A8, c8, rfl, _, _, _⟩ := own_form hown
        have r8 := r80 A8 c8 rfl
        clear r80
        have B7 := B6.trans (b7.mono B6.size)
        have kp7 := kp.keep b7
        have kx7 := kx6.keep b7
        have hG7 := hid (HH.out.good w7 b7 (Nat.le_refl k))
        have hLf : Hid (Left q (L.drop 0) S) := hid ⟨hqn, fun j => (HM.out.1 j).symm⟩
        have HXv := hid hxn
        clear U hown b7 B6 kp kx6 lp HH hqn hxn
        obtain ⟨ln, hln⟩ : ∃ z, L.length = z := ⟨_, rfl⟩
        rw [hln] at r8 hll ⊢
        have HLn := hid hln
        clear hln
        go_wp2_with fail
        go_loopw [52] (fun i wr => ∃ (j : Nat) (p : Pgr) (D' : Dk) (S' : RS), j ≤ ln ∧ i = .int .i64 j ∧ Blk wr G9 37 p.cs ∧ Blk wr G 63 x.cs ∧ Hid (Good F (k + j) 2 N wr p D' S') ∧ Hid (Left q (L.drop j) S') ∧ RN (fun b => b ≠ G9) wr 1 A8 ln (L.map intV) ∧ Below w.heap.size w wr) (fun i _ => ln - (intOf i).toNat)
        case atStart => exact ⟨0, x.p, D, S, Nat.zero_le _, rfl, kp7, kx7, hG7, hLf, r8, B7⟩
        case round =>
          clear kp7 kx7 hG7 hLf r8 B7
          obtain ⟨j, p, D', S', hj, rfl, kp, kx, hG, hLf, hrl, hbel⟩ := hrel
          by_cases hlt : j < ln
          · obtain ⟨b8, o8, x8, hA8, hb8, hx8, hc8⟩ := hrl.1.at1 hlt
            obtain ⟨id, hid8⟩ : ∃ id, L[j]? = some id := ⟨_, List.getElem?_eq_getElem (by rw [HLn.out]; exact hlt)⟩
            rw [List.getElem?_map, hid8] at hx8
            obtain rfl : intV id = x8 := Option.some.inj hx8
            have hdr : L.drop j = id :: L.drop (j + 1) := drop_one hid8
            have hid2 := HM.out.2.2 id (List.mem_of_getElem? hid8)
            have hnd : id ∉ L.drop (j + 1) := by
              have h2 : (L.drop j).Nodup := List.Pairwise.sublist (List.drop_sublist j L) HM.out.2.1
              rw [hdr] at h2
              exact (List.nodup_cons.1 h2).1
            have hin : S'.inn id = true := by
              unfold RS.inn
              simp only [Bool.and_eq_true, decide_eq_true_eq, Int.toNat_natCast]
              exact ⟨⟨by omega, by rw [hLf.out.1]; omega⟩, (hLf.out.2 id).2 (by rw [hdr]; exact List.mem_cons_self ..)⟩
            have HL2 := hid (Left.next (by rw [← hdr]; exact hLf.out) hG.out.sim.sok hnd hid2.2)
            unfold intV at hc8
            have hp9 := hG.out.sim.pok
            have tj : (j : Int) < (ln : Int) := by omega
            have R := hG.out.free_ (id := id) (by omega) hin
            clear hid8 hx8 hdr hnd hin hLf hid2
            subst hA8
            have lp := kp.lt
            go_wp2_with ((with_reducible refine is_load 37 ?_); refine wp_loadP G9 p hp9 kp rfl ?_; go_frame)
            refine R.mono ?_
            clear R
            rintro e w8 ⟨y, D2, rfl, hG8, b8'⟩
            have hq8 := hG8.sim.pok
            have HG8 := hid hG8
            have kp8 := kp.keep b8'
            have kx8 := kx.keep b8'
            have rl8 := hrl.keep b8'
            have B8 := hbel.trans (b8'.mono hbel.size)
            clear hG8 hG kp kx hrl hbel b8' hc8 hb8 lp
            have lp8 := kp8.lt
            go_wp2_with (first
              | ((with_reducible refine is_alloc 37 ?_); refine wp_allocB (w := w8) _ arrPgr ?_; intro w9 k9 b9 s9; go_frame)
              | ((with_reducible refine is_store 37 ?_); refine wp_storeP w8.heap.size _ y hq8 k9 (by rw [Pgr.cs_len Pgr.zero_ok]) rfl rfl ?_; intro w10 k10 r10; go_frame; have l10 := k10.lt; have kp10 := (kp8.keep b9).grown r10 (by simp; omega); have lp10 := kp10.lt)
              | ((with_reducible refine is_load 37 ?_); refine wp_loadP w8.heap.size y hq8 k10 rfl ?_; go_frame)
              | ((with_reducible refine is_store 37 ?_); refine wp_storeP G9 _ y hq8 kp10 (Pgr.cs_len hp9) rfl rfl ?_; intro w11 kp11 r11; go_frame))
            have ba : Below w8.heap.size w8 w10 := b9.grown r10 b9.size (fun z hz => by cases hz; exact Nat.le_refl _)
            have B11 := (B8.trans (ba.mono B8.size)).grown r11 (by have := B8.size; have := ba.size; omega) (fun z hz => by cases hz; exact hw9)
            have HG11 := hid ((HG8.out.keep ba).kept (Kept.grown r11 kp10 notPgr))
            have kx11 := (kx8.keep ba).grown r11 (by simp; omega)
            have rl11 := (rl8.keep ba).grown r11 (fun g hg h => by cases hg; exact h rfl)
            go_roundw
            case measure => simp [intOf]; omega
            case rel => exact ⟨j + 1, y, D2, S'.free id, by omega, by go_num, kp11, kx11, HG11, HL2, rl11, B11⟩
          · obtain rfl : j = ln := by omega
            have hE : ∀ i, S'.nowB i = false := fun i => by
              cases e : S'.nowB i with
              | false => rfl
              | true =>
                have := (hLf.out.2 i).1 e
                rw [List.drop_of_length_le (by rw [HLn.out]; exact Nat.le_refl _)] at this
                cases this
            have hS'n := hLf.out.1
            have hp9 := hG.out.sim.pok
            have R := hG.out.commit_ (root := 0) (HTb.out.keep hbel) (by omega) (.inl rfl) (by omega) (A := none) (m := 0) (l := []) (c := 0) (RL.nil wr 1 none) (by omega)
            rw [show ((0 : Nat) : Int) = 0 from rfl] at R
            have lp := kp.lt
            go_wp2_with ((with_reducible refine is_load 37 ?_); refine wp_loadP G9 p hp9 kp rfl ?_; go_frame)
            refine R.mono ?_
            clear R
            rintro e w8 ⟨p2, D2, rfl, hG8, b8⟩
            have hq8 := hG8.sim.pok
            have hUp : Upto q 0 (S'.commit 0 []) := ⟨hS'n, hE, fun i => ⟨fun h => absurd ((hE i).symm.trans h) (by decide), fun h => absurd h.2 (by have := h.1; omega)⟩⟩
            have U := fun wx => used_any p2 wx hq8
            have P := fun wx => room_any p2 wx hq8
            rw [hG8.sim.used, empty_now (S := S'.commit 0 []) hE] at U
            rw [hG8.sim.room, empty_room (S := S'.commit 0 []) hE hE, show (S'.commit 0 []).n = q from hS'n] at P
            have HU := hid U
            have HPr := hid P
            have HUp := hid hUp
            have HG8 := hid hG8
            have kp8 := kp.keep b8
            have kx8 := kx.keep b8
            have B8 := hbel.trans (b8.mono hbel.size)
            clear U P hUp hG8 hG kp kx hrl hbel b8 hE hS'n lp hLf
            have lp8 := kp8.lt
            go_upto_region 19 with ((with_reducible refine is_store 37 ?_); refine wp_storeP G9 _ p2 hq8 kp8 (Pgr.cs_len hp9) rfl rfl ?_; intro w9 kp9 r9; go_frame)
            have B9 := B8.grown r9 B8.size (fun z hz => by cases hz; exact hw9)
            have HG9 := hid (HG8.out.kept (Kept.grown r9 kp8 notPgr))
            have kx9 := kx8.grown r9 (by simp; omega)
            have hxn := HXv.out
            have nq : ((q : Int) != (q : Int)) = false := by simp
            clear B8 HG8 kx8 kp8 r9 lp8 hp9
            refine wp_region_head 126 20 [71, 72, 73, 74, 75, 76, 77, 78, 79, 80, 81, 82, 83, 84, 85, 86, 87, 88, 89, 90] [] ((fun kq => ([fun u w' => u = .bool true, fun u w' => u = .bool false, fun u w' => u = .bool false, fun u w' => u = .int .i64 0, fun u w' => u = .bool false, fun u w' => u = .bool false, fun u w' => u = .bool false, fun u w' => u = p2.v, fun u w' => ∃ (gu : Option Addr), ∃ (cu : Nat), u = .slice gu 0 cu, fun u w' => u = .int .i64 0, fun u w' => u = .bool false, fun u w' => u = .bool false, fun u w' => u = .bool false, fun u w' => u = p2.v, fun u w' => u = .int .i64 (q : Int), fun u w' => u = .pointer (some ⟨G, 266, none⟩), fun u w' => u = .pointer (some ⟨G, 266, none⟩), fun u w' => u = .int .i64 (q : Int), fun u w' => u = .bool false, fun u w' => u = .bool false] : List (Value → World → Prop)).getD kq (fun _ _ => True))) (by kernel_rfl) rfl (by kernel_rfl) (.inl rfl) ?grow ?step ?tail
            case step =>
              simp only [List.take_succ_cons, List.take_zero]
              refine HSteps.cons ?_ ?_
              · intro f w' hb hU
                simp only [putAll, List.foldl_cons, List.foldl_nil]
                go_frame
                go_wp2_with fail
                exact ⟨rfl, _, rfl, Below.refl _ _, rfl⟩
              refine HSteps.cons ?_ ?_
              · intro f w' hb hU
                obtain u0 : f 71 = .bool true := hU.get ⟨0, .data⟩ (by simp) rfl
                simp only [putAll, List.foldl_cons, List.foldl_nil]
                go_frame
                try simp only [u0]
                go_wp2_with fail
                exact ⟨rfl, _, rfl, Below.refl _ _, rfl⟩
              refine HSteps.cons ?_ ?_
              · intro f w' hb hU
                obtain u1 : f 72 = .bool false := hU.get ⟨1, .data⟩ (by simp) rfl
                simp only [putAll, List.foldl_cons, List.foldl_nil]
                go_frame
                try simp only [u1]
                go_wp2_with fail
                exact ⟨rfl, _, rfl, Below.refl _ _, rfl⟩
              refine HSteps.cons ?_ ?_
              · intro f w' hb hU
                simp only [putAll, List.foldl_cons, List.foldl_nil]
                go_frame
                obtain u2 : f 73 = .bool false := hU.get ⟨2, .guard⟩ (by simp) rfl
                try simp only [u2]
                go_wp2_with fail
                exact ⟨rfl, _, rfl, Below.refl _ _, rfl⟩
              refine HSteps.cons ?_ ?_
              · intro f w' hb hU
                simp only [putAll, List.foldl_cons, List.foldl_nil]
                go_frame
                obtain u3 : f 74 = .int .i64 0 := hU.get ⟨3, .data⟩ (by simp) rfl
                obtain u2 : f 73 = .bool false := hU.get ⟨2, .guard⟩ (by simp) rfl
                try simp only [u3, u2]
                go_wp2_with fail
                exact ⟨rfl, _, rfl, Below.refl _ _, rfl⟩
              refine HSteps.cons ?_ ?_
              · intro f w' hb hU
                obtain u2 : f 73 = .bool false := hU.get ⟨2, .data⟩ (by simp) rfl
                obtain u4 : f 75 = .bool false := hU.get ⟨4, .data⟩ (by simp) rfl
                simp only [putAll, List.foldl_cons, List.foldl_nil]
                go_frame
                try simp only [u2, u4]
                go_wp2_with fail
                exact ⟨rfl, _, rfl, Below.refl _ _, rfl⟩
              refine HSteps.cons ?_ ?_
              · intro f w' hb hU
                obtain u5 : f 76 = .bool false := hU.get ⟨5, .data⟩ (by simp) rfl
                obtain u2 : f 73 = .bool false := hU.get ⟨2, .chain⟩ (by simp) rfl
                simp only [putAll, List.foldl_cons, List.foldl_nil]
                go_frame
                try simp only [u5, u2]
                go_wp2_with fail
                exact ⟨rfl, _, rfl, Below.refl _ _, rfl⟩
              refine HSteps.cons ?_ ?_
              · intro f w' hb hU
                simp only [putAll, List.foldl_cons, List.foldl_nil]
                go_frame
                obtain u6 : f 77 = .bool false := hU.get ⟨6, .guard⟩ (by simp) rfl
                try simp only [u6]
                go_wp2_with ((with_reducible refine is_load 37 ?_); refine wp_loadPg G9 p2 hq8 (kp9.keep hb) rfl rfl ?_; go_frame)
                exact ⟨rfl, _, rfl, Below.refl _ _, rfl⟩
              refine HSteps.cons ?_ ?_
              · intro f w' hb hU
                simp only [putAll, List.foldl_cons, List.foldl_nil]
                go_frame
                obtain u7 : f 78 = p2.v := hU.get ⟨7, .data⟩ (by simp) rfl
                obtain u6 : f 77 = .bool false := hU.get ⟨6, .chain⟩ (by simp) rfl
                try simp only [u7, u6]
                go_wp2_with fail
                refine (HU.out w').mono ?_
                rintro e w3 ⟨vv, rfl, hvv, b3⟩
                obtain ⟨gu, cu, rfl, _, _, _⟩ := own_form hvv
                go_wp2_with fail
                exact ⟨rfl, _, rfl, b3, gu, cu, rfl⟩
              refine HSteps.cons ?_ ?_
              · intro f w' hb hU
                simp only [putAll, List.foldl_cons, List.foldl_nil]
                go_frame
                obtain ⟨gu, cu, u8⟩ : ∃ (gu : Option Addr), ∃ (cu : Nat), f 79 = .slice gu 0 cu := hU.get ⟨8, .data⟩ (by simp) rfl
                obtain u6 : f 77 = .bool false := hU.get ⟨6, .guard⟩ (by simp) rfl
                try simp only [u8, u6]
                go_wp2_with fail
                exact ⟨rfl, _, rfl, Below.refl _ _, rfl⟩
              refine HSteps.cons ?_ ?_
              · intro f w' hb hU
                simp only [putAll, List.foldl_cons, List.foldl_nil]
                go_frame
                obtain u9 : f 80 = .int .i64 0 := hU.get ⟨9, .data⟩ (by simp) rfl
                obtain u6 : f 77 = .bool false := hU.get ⟨6, .guard⟩ (by simp) rfl
                try simp only [u9, u6]
                go_wp2_with fail
                exact ⟨rfl, _, rfl, Below.refl _ _, rfl⟩
              refine HSteps.cons ?_ ?_
              · intro f w' hb hU
                obtain u6 : f 77 = .bool false := hU.get ⟨6, .data⟩ (by simp) rfl
                obtain u10 : f 81 = .bool false := hU.get ⟨10, .data⟩ (by simp) rfl
                simp only [putAll, List.foldl_cons, List.foldl_nil]
                go_frame
                try simp only [u6, u10]
                go_wp2_with fail
                exact ⟨rfl, _, rfl, Below.refl _ _, rfl⟩
              refine HSteps.cons ?_ ?_
              · intro f w' hb hU
                obtain u11 : f 82 = .bool false := hU.get ⟨11, .data⟩ (by simp) rfl
                obtain ⟨gu, cu, u8⟩ : ∃ (gu : Option Addr), ∃ (cu : Nat), f 79 = .slice gu 0 cu := hU.get ⟨8, .chain⟩ (by simp) rfl
                simp only [putAll, List.foldl_cons, List.foldl_nil]
                go_frame
                try simp only [u11, u8]
                go_wp2_with fail
                exact ⟨rfl, _, rfl, Below.refl _ _, rfl⟩
              refine HSteps.cons ?_ ?_
              · intro f w' hb hU
                simp only [putAll, List.foldl_cons, List.foldl_nil]
                go_frame
                obtain u12 : f 83 = .bool false := hU.get ⟨12, .guard⟩ (by simp) rfl
                try simp only [u12]
                go_wp2_with ((with_reducible refine is_load 37 ?_); refine wp_loadPg G9 p2 hq8 (kp9.keep hb) rfl rfl ?_; go_frame)
                exact ⟨rfl, _, rfl, Below.refl _ _, rfl⟩
              refine HSteps.cons ?_ ?_
              · intro f w' hb hU
                simp only [putAll, List.foldl_cons, List.foldl_nil]
                go_frame
                obtain u13 : f 84 = p2.v := hU.get ⟨13, .data⟩ (by simp) rfl
                obtain u12 : f 83 = .bool false := hU.get ⟨12, .chain⟩ (by simp) rfl
                try simp only [u13, u12]
                go_wp2_with fail
                refine (HPr.out w').mono ?_
                rintro e w3 ⟨rfl, b3⟩
                go_wp2_with fail
                exact ⟨rfl, _, rfl, b3, rfl⟩
              refine HSteps.cons ?_ ?_
              · intro f w' hb hU
                simp only [putAll, List.foldl_cons, List.foldl_nil]
                go_frame
                obtain u12 : f 83 = .bool false := hU.get ⟨12, .guard⟩ (by simp) rfl
                try simp only [u12]
                go_wp2_with fail
                exact ⟨rfl, _, rfl, Below.refl _ _, rfl⟩
              refine HSteps.cons ?_ ?_
              · intro f w' hb hU
                simp only [putAll, List.foldl_cons, List.foldl_nil]
                go_frame
                obtain u15 : f 86 = .pointer (some ⟨G, 266, none⟩) := hU.get ⟨15, .data⟩ (by simp) rfl
                obtain u12 : f 83 = .bool false := hU.get ⟨12, .guard⟩ (by simp) rfl
                try simp only [u15, u12]
                go_wp2_with fail
                exact ⟨rfl, _, rfl, Below.refl _ _, rfl⟩
              refine HSteps.cons ?_ ?_
              · intro f w' hb hU
                simp only [putAll, List.foldl_cons, List.foldl_nil]
                go_frame
                obtain u16 : f 87 = .pointer (some ⟨G, 266, none⟩) := hU.get ⟨16, .data⟩ (by simp) rfl
                obtain u12 : f 83 = .bool false := hU.get ⟨12, .guard⟩ (by simp) rfl
                have yN := StV.cellN hp (kx9.keep hb)
                rw [hxn] at yN
                try simp only [u16, u12]
                go_wp2_with fail
                exact ⟨rfl, _, rfl, Below.refl _ _, rfl⟩
              refine HSteps.cons ?_ ?_
              · intro f w' hb hU
                simp only [putAll, List.foldl_cons, List.foldl_nil]
                go_frame
                obtain u14 : f 85 = .int .i64 (q : Int) := hU.get ⟨14, .data⟩ (by simp) rfl
                obtain u17 : f 88 = .int .i64 (q : Int) := hU.get ⟨17, .data⟩ (by simp) rfl
                obtain u12 : f 83 = .bool false := hU.get ⟨12, .guard⟩ (by simp) rfl
                try simp only [u14, u17, u12]
                go_wp2_with fail
                exact ⟨rfl, _, rfl, Below.refl _ _, rfl⟩
              refine HSteps.cons ?_ ?_
              · intro f w' hb hU
                obtain u12 : f 83 = .bool false := hU.get ⟨12, .data⟩ (by simp) rfl
                obtain u18 : f 89 = .bool false := hU.get ⟨18, .data⟩ (by simp) rfl
                simp only [putAll, List.foldl_cons, List.foldl_nil]
                go_frame
                try simp only [u12, u18]
                go_wp2_with fail
                exact ⟨rfl, _, rfl, Below.refl _ _, rfl⟩
              exact HSteps.nil
            case grow =>
              intro kq u wa wb hb hu
              rcases kq with _ | _ | _ | _ | _ | _ | _ | _ | _ | _ | _ | _ | _ | _ | _ | _ | _ | _ | _ | _ | kq
              · exact hu
              · exact hu
              · exact hu
              · exact hu
              · exact hu
              · exact hu
              · exact hu
              · exact hu
              · exact hu
              · exact hu
              · exact hu
              · exact hu
              · exact hu
              · exact hu
              · exact hu
              · exact hu
              · exact hu
              · exact hu
              · exact hu
              · exact hu
              · trivial
            case tail =>
              intro f w7 hb7 hU
              obtain u19 : f 90 = .bool false := hU.get 19 (by decide)
              simp only [List.drop_succ_cons, List.drop_zero, putAll, List.foldl_cons, List.foldl_nil]
              go_frame
              simp only [u19]
              clear u19
              clear hU
              replace kp9 := kp9.keep hb7
              replace kx9 := kx9.keep hb7
              replace HG9 := hid (HG9.out.keep hb7)
              replace B9 := B9.trans (hb7.mono B9.size)
              clear hb7 HU HPr nq
              obtain ⟨K, hK⟩ : ∃ z, k + j + 1 = z := ⟨_, rfl⟩
              have hKl : K ≤ 1000 := by omega
              rw [hK] at HG9
              clear hK
              go_wp2_with fail
              go_loopw [15] (fun i wr => ∃ (l : Nat) (p : Pgr) (D' : Dk) (S' : RS), l ≤ q ∧ i = .int .i64 ((l + 1 : Nat) : Int) ∧ Blk wr G9 37 p.cs ∧ Blk wr G 63 x.cs ∧ Hid (Good F (K + l) 2 N wr p D' S') ∧ Hid (Upto q l S') ∧ Below w.heap.size w wr) (fun i _ => q + 1 - (intOf i).toNat)
              case atStart => exact ⟨0, p2, D2, S'.commit 0 [], Nat.zero_le _, rfl, kp9, kx9, HG9, HUp, B9⟩
              case round =>
                clear kp9 kx9 HG9 HUp B9
                obtain ⟨l, p, D', S', hl, rfl, kp, kx, hG, hUp, hbel⟩ := hrel
                have yN := StV.cellN hp kx
                rw [hxn] at yN
                have lx := kx.lt
                have lp := kp.lt
                have hp9 := hG.out.sim.pok
                by_cases hlt : l < q
                · obtain ⟨l1, hl1⟩ : ∃ z, l + 1 = z := ⟨_, rfl⟩
                  have tl : (l1 : Int) ≤ (q : Int) := by omega
                  have e8 : IntKind.u8.wrap (l1 : Int) = (l1 : Int) := IntWalk.u8_in _ (by omega)
                  have hFi := hUp.out.first hlt
                  have HN := hid (hUp.out.next (l := [UInt8.ofNat l1]) hG.out.sim.sok hlt)
                  have ne1 : ((l1 : Int) != (l1 : Int)) = false := by simp
                  rw [hl1] at hFi HN ⊢
                  have HL1 := hid hl1
                  clear hl1
                  go_wp2_with ((with_reducible refine is_load 37 ?_); refine wp_loadP G9 p hp9 kp rfl ?_; go_frame)
                  have hby : Value.int .u8 (l1 : Int) = byV (UInt8.ofNat l1) := by
                    unfold byV N8
                    simp
                    omega
                  have ba : Below wr.heap.size wr (wr.alloc (.cells #[.int .u8 (l1 : Int)] 5)) := (Below.refl _ _).alloc (Nat.le_refl _) _
                  have hlb : RB (wr.alloc (.cells #[.int .u8 (l1 : Int)] 5)) (some ⟨wr.heap.size, 0, none⟩) 1 [UInt8.ofNat l1] := by
                    have := RL.new wr #[.int .u8 (l1 : Int)] 5 (0, 0) 1 1 rfl
                    show RL _ _ _ _ [byV _]
                    rw [← hby]
                    exact this
                  obtain ⟨wa, hwa⟩ : ∃ z, wr.alloc (.cells #[.int .u8 (l1 : Int)] 5) = z := ⟨_, rfl⟩
                  rw [hwa] at ba hlb ⊢
                  clear hwa hby yN
                  have Ba := hbel.trans (ba.mono hbel.size)
                  have R := (hG.out.keep ba).alloc_ (HTb.out.keep Ba) (by omega) hFi hlb (by omega) (Nat.le_refl 1) (by omega)
                  have kpa := kp.keep ba
                  have kxa := kx.keep ba
                  clear hlb ba hG hUp kp kx hbel hFi lp lx
                  refine R.mono ?_
                  clear R
                  rintro e w8 ⟨y, D2, rfl, hG8, b8⟩
                  have hq8y := hG8.sim.pok
                  have HG8 := hid hG8
                  have kp8 := kpa.keep b8
                  have kx8 := kxa.keep b8
                  have B8 := Ba.trans (b8.mono Ba.size)
                  clear hG8 kpa kxa Ba b8
                  have lp8 := kp8.lt
                  go_wp2_with (first
                    | ((with_reducible refine is_alloc 37 ?_); refine wp_allocB (w := w8) _ arrPgr ?_; intro w9 k9 b9 s9; go_frame)
                    | ((with_reducible refine is_store 37 ?_); refine wp_storeP w8.heap.size _ y hq8y k9 (by rw [Pgr.cs_len Pgr.zero_ok]) rfl rfl ?_; intro w10 k10 r10; go_frame; have l10 := k10.lt; have kp10 := (kp8.keep b9).grown r10 (by simp; omega); have lp10 := kp10.lt)
                    | ((with_reducible refine is_load 37 ?_); refine wp_loadP w8.heap.size y hq8y k10 rfl ?_; go_frame)
                    | ((with_reducible refine is_store 37 ?_); refine wp_storeP G9 _ y hq8y kp10 (Pgr.cs_len hp9) rfl rfl ?_; intro w11 kp11 r11; go_frame))
                  have ba : Below w8.heap.size w8 w10 := b9.grown r10 b9.size (fun z hz => by cases hz; exact Nat.le_refl _)
                  have B11 := (B8.trans (ba.mono B8.size)).grown r11 (by have := B8.size; have := ba.size; omega) (fun z hz => by cases hz; exact hw9)
                  have HG11 := hid ((HG8.out.keep ba).kept (Kept.grown r11 kp10 notPgr))
                  have kx11 := (kx8.keep ba).grown r11 (by simp; omega)
                  go_roundw
                  case measure => simp [intOf]; have := HL1.out; omega
                  case rel => exact ⟨l1, y, D2, S'.alloc l1 [UInt8.ofNat l1], by omega, by go_num, kp11, kx11, by rw [show K + l1 = K + l + 1 by have := HL1.out; omega]; exact HG11, HN, B11⟩
                · obtain rfl : l = q := by omega
                  have tl : ¬ ((l + 1 : Nat) : Int) ≤ (l : Int) := by omega
                  have hno : ∀ i, ¬ S'.idle i := fun i h => by
                    have := (hUp.out.2.2 i).2 ⟨h.1, by have := h.2.1; rw [hUp.out.1] at this; exact this⟩
                    rw [h.2.2.1] at this
                    cases this
                  have R := hG.out.full (HTb.out.keep hbel) (by omega) hno (A := none) (n := 0) (c := 0) (l := []) (RL.nil wr 1 none) (by omega) (Nat.le_refl 0) (by omega)
                  clear hno
                  go_wp2_with ((with_reducible refine is_load 37 ?_); refine wp_loadP G9 p hp9 kp rfl ?_; go_frame)
                  refine R.mono ?_
                  clear R
                  rintro e w8 ⟨rfl, b8⟩
                  have B8 := hbel.trans (b8.mono hbel.size)
                  have hs8 := B8.size
                  clear yN lx lp
                  go_wp2_with (first
                    | ((with_reducible refine is_alloc 37 ?_); refine wp_allocB (w := w8) _ arrPgr ?_; intro w9 k9 b9 s9; go_frame)
                    | ((with_reducible refine is_store 37 ?_); refine wp_storeP w8.heap.size _ p hp9 k9 (by rw [Pgr.cs_len Pgr.zero_ok]) rfl rfl ?_; intro w10 k10 r10; go_frame))
                  have B10 := (B8.trans (b9.mono B8.size)).grown r10 (by have := b9.size; omega) (fun z hz => by cases hz; exact hs8)
                  refine (awake_any _ (HTb.out.keep B10)).mono ?_
                  rintro e w11 ⟨rfl, b11⟩
                  go_wp2_with fail
                  go_ret
                  exact ⟨rfl, B10.trans (b11.mono B10.size)⟩
end Go.Proofs.YtanglofabkbllaaDoor

