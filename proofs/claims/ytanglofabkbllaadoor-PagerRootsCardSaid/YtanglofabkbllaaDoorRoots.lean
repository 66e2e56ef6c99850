/- The walk of PagerRoots. Conditions: the table of remainders is laid; the arguments read. -/
import Derived.Test.YtanglofabkbllaaDoorLaw
import Derived.Test.YtanglofabkbllaaDoorIs
import Derived.Test.YtanglofabkbllaaDoorRootR
import Derived.Test.YtanglofabkbllaaDoorHead
set_option linter.unusedSimpArgs false
set_option linter.unusedVariables false
namespace Go.Proofs.YtanglofabkbllaaDoor
open Go.RowKit

set_option maxRecDepth 100000
/-- a change of a byte as cells -/
def chCs (y : Nat × Nat) : List Value := [.int .u16 y.1, .int .u16 y.2]
theorem arrU2 : ArrT Tryd.prog 75 [.int .u16 0, .int .u16 0] := (by kernel_rfl : (Tryd.prog.info? 75).map (fun i => (i.zero, i.size)) = some (some (.agg #[.int .u16 0, .int .u16 0]), 2))
theorem u2N : (Tryd.prog.info? 75).map (·.size) = some 2 := by kernel_rfl
theorem stored_some {d : Dec} {par n : Nat} {s : Sta} (h : storedOf d par n = some s) : s.num ≠ 0 ∧ within s.nu n := by
  unfold storedOf at h
  split at h
  · cases h
  · rename_i h1
    split at h
    · cases h
    · split at h
      · cases h
      · split at h
        · cases h
        · split at h
          · cases h
          · rename_i h5
            split at h
            · cases h
            · cases h
              exact ⟨fun e => h1 (.inr (.inr (.inr (.inl e)))), Classical.not_not.1 h5⟩
theorem used_eq (nu : List UInt8) (us : List Bool) (q : Nat) (hq : q ≤ 1023) (hw : within nu q) (hus : ∀ i, i ≤ q → us[i]?.getD false = bit nu i) :
    (List.range 1024).filter (bit nu) = (List.range (q + 1)).filter (fun i => us[i]?.getD false) := by
  have h2 : ∀ m, q + 1 + m ≤ 1024 → (List.range (q + 1 + m)).filter (bit nu) = (List.range (q + 1)).filter (bit nu) := by
    intro m
    induction m with
    | zero => intro _; rfl
    | succ m ih =>
      intro h
      rw [← Nat.add_assoc, List.range_succ, List.filter_append, ih (by omega)]
      have : bit nu (q + 1 + m) = false := by
        cases hb : bit nu (q + 1 + m) with
        | false => rfl
        | true => have := hw _ (by omega) hb; omega
      rw [List.filter_cons, this]
      simp
  have h3 := h2 (1024 - (q + 1)) (by omega)
  rw [show q + 1 + (1024 - (q + 1)) = 1024 by omega] at h3
  rw [h3]
  refine List.filter_congr fun i hi => ?_
  rw [hus i (by have := List.mem_range.1 hi; omega)]

/-- what the law wants so far: the state found, in blocks of a set -/
structure Want (N : Nat → Prop) (n : Nat) (o : Option Sta) (v : RV) (w : World) : Prop where
  no : o = none → v = RV.zero
  yes : ∀ s, o = some s → v.root = s.root ∧ v.num = s.num ∧ SlR N w v.m s.mt ∧ v.u.n = n + 1 ∧ n + 1 ≤ v.u.c ∧ v.u.c ≤ 9223372036854775807 ∧ ∃ us : List Bool, RN N w 1 v.u.A (n + 1) (us.map Value.bool) ∧ us.length = n + 1 ∧ ∀ i, i ≤ n → us[i]?.getD false = bit s.nu i
theorem Want.none_ (N : Nat → Prop) (n : Nat) (w : World) : Want N n none RV.zero w := ⟨fun _ => rfl, fun _ h => by cases h⟩
section
variable {N N' : Nat → Prop} {n : Nat} {o : Option Sta} {v : RV} {w w' : World}
theorem Want.keep (h : Want N n o v w) (hb : Below w.heap.size w w') : Want N n o v w' :=
  ⟨h.no, fun s hs => by
    obtain ⟨h2, h3, h4, h5, h6, h7, us, h8, h9, h10⟩ := h.yes s hs
    exact ⟨h2, h3, h4.keep hb, h5, h6, h7, us, h8.keep hb, h9, h10⟩⟩
theorem Want.mono (h : Want N n o v w) (hN : ∀ b, N b → N' b) : Want N' n o v w :=
  ⟨h.no, fun s hs => by
    obtain ⟨h2, h3, h4, h5, h6, h7, us, h8, h9, h10⟩ := h.yes s hs
    exact ⟨h2, h3, h4.mono hN, h5, h6, h7, us, h8.mono hN, h9, h10⟩⟩
theorem Want.lt (h : Want N n o v w) : Want (fun b => N b ∧ b < w.heap.size) n o v w :=
  ⟨h.no, fun s hs => by
    obtain ⟨h2, h3, h4, h5, h6, h7, us, h8, h9, h10⟩ := h.yes s hs
    exact ⟨h2, h3, ⟨h4.r.lt, h4.nc, h4.cm⟩, h5, h6, h7, us, h8.lt, h9, h10⟩⟩
theorem Want.grown {g : Nat} (h : Want N n o v w) (hg : w.grownBy w' (some g)) (hr : ¬ N g) : Want N n o v w' :=
  ⟨h.no, fun s hs => by
    obtain ⟨h2, h3, h4, h5, h6, h7, us, h8, h9, h10⟩ := h.yes s hs
    have hN : ∀ g', some g = some g' → ¬ N g' := fun g' e => by cases e; exact hr
    exact ⟨h2, h3, h4.grown hg hN, h5, h6, h7, us, h8.grown hg hN, h9, h10⟩⟩
end
theorem rv_nobool (v : RV) : ∀ x ∈ v.cs, ∀ y, x ≠ Value.bool y := by
  intro x hx y
  simp only [RV.cs, List.mem_cons, List.not_mem_nil, or_false] at hx
  rcases hx with rfl | rfl | rfl | rfl | rfl | rfl | rfl <;> (intro h; cases h)
theorem RL.ne_bool {w : World} {A : Option Addr} {n b o' g : Nat} {us : List Bool} {V : RV} (h : RL w 1 A n (us.map Value.bool)) (hA : A = some ⟨b, o', none⟩) (hn : 0 < n) (k : Blk w g 60 V.cs) : b ≠ g := by
  obtain ⟨b', o2, e, hb, hc⟩ := h.2 hn
  have hl := h.1
  rw [List.length_map] at hl
  rw [hA] at e
  cases e
  rintro rfl
  obtain ⟨u0, hu0⟩ : ∃ z, us[0]? = some z := ⟨_, List.getElem?_eq_getElem (by omega)⟩
  have h1 := hc 0 (.bool u0) (by rw [List.getElem?_map, hu0]; rfl)
  rw [k.cell] at h1
  exact rv_nobool V _ (List.mem_of_getElem? h1) u0 rfl
/-- a state that Root gave is in no variable of that type -/
theorem RootF.want {n g1 g2 : Nat} {o : Option Sta} {v V1 V2 : RV} {bo : Bool} {w : World} {s : Sta} (h : RootF n o v bo w) (hs : o = some s) (k1 : Blk w g1 60 V1.cs) (k2 : Blk w g2 60 V2.cs) : Want (fun b => b ≠ g1 ∧ b ≠ g2) n (some s) v w :=
  ⟨fun e => (by cases e), fun s' hs' => by
    cases hs'
    obtain ⟨_, h2, h3, h4, h5, h6, h7, us, h8, h9, h10⟩ := h.yes s hs
    refine ⟨h2, h3, ⟨⟨h4.r.1, fun b o' hA hn => ?_⟩, h4.nc, h4.cm⟩, h5, h6, h7, us, ⟨h8, fun b o' hA hn => ?_⟩, h9, h10⟩
    · have hrb : RB w (some ⟨b, o', none⟩) v.m.n s.mt := by rw [← hA]; exact h4.r.1
      exact ⟨RB.ne_of hrb hn k1 (rv_noby V1), RB.ne_of hrb hn k2 (rv_noby V2)⟩
    · exact ⟨RL.ne_bool h8 hA hn k1, RL.ne_bool h8 hA hn k2⟩⟩
theorem later_yes {a : Option Sta} {s : Sta} (h : ∀ t, a = some t → t.num < s.num) : later13 a (some s) = some s := by
  cases a with
  | none => rfl
  | some t =>
    show (if t.num < s.num then some s else some t) = some s
    rw [if_pos (h t rfl)]
theorem later_no {t s : Sta} (h : ¬ t.num < s.num) : later13 (some t) (some s) = some t := by
  show (if t.num < s.num then some s else some t) = some t
  rw [if_neg h]
theorem later_none (a : Option Sta) : later13 a none = a := by
  cases a <;> rfl

theorem later_mem {a b : Option Sta} {s : Sta} (h : later13 (later13 none a) b = some s) : a = some s ∨ b = some s := by
  cases a with
  | none =>
    cases b with
    | none => cases h
    | some t => exact .inr h
  | some t =>
    cases b with
    | none => exact .inl h
    | some u =>
      have h' : (if t.num < u.num then some u else some t) = some s := h
      split at h'
      · exact .inr h'
      · exact .inl h'
/-- the numbers of the used pages among the first k -/
def LU (us : List Bool) (k : Nat) : List Nat := (List.range k).filter (fun i => us[i]?.getD false)
theorem LU_succ (us : List Bool) (k : Nat) : LU us (k + 1) = LU us k ++ (if us[k]?.getD false then [k] else []) := by
  unfold LU
  rw [List.range_succ, List.filter_append]
  congr 1
  cases h : us[k]?.getD false <;> simp [h]
theorem LU_le (us : List Bool) (k : Nat) : (LU us k).length ≤ k := by
  unfold LU
  have := List.length_filter_le (fun i => us[i]?.getD false) (List.range k)
  rwa [List.length_range] at this

set_option maxHeartbeats 24000000 in
theorem roots_walk (n0 : Nat) (A : Option Addr) (m c : Nat) (X : List Ac) (A2 : Option Addr) (m2 c2 : Nat) (Y : List (Nat × Nat)) (w : World) (hT : Tab w) (hn0 : n0 ≤ 255) (hX : X.length = m) (hr : RL w 5 A m (X.flatMap Ac.cs)) (hok : ∀ x ∈ X, x.ok) (hmc : m ≤ c) (hcm : c ≤ 9223372036854775807)
    (hY : Y.length = m2) (hr2 : RL w 2 A2 m2 (Y.flatMap chCs)) (hok2 : ∀ y ∈ Y, y.1 < 65536 ∧ y.2 < 65536) (hmc2 : m2 ≤ c2) (hcm2 : c2 ≤ 9223372036854775807) :
    Calls Tryd.prog 6 #[.int .u8 n0, .slice A m c, .slice A2 m2 c2] w fun e w' => e = .returned (.bool true) ∧ Below w.heap.size w w' := by
  have HTb := hid hT
  have HR := hid hr
  have HX := hid hX
  have HOK := hid hok
  have HR2 := hid hr2
  have HOK2 := hid hok2
  have FW := few_any A m c X w hX hr hmc hcm
  clear hT hr hX hok hr2 hok2 hY
  go_enter Tryd.func6, Tryd.ntmps6
  go_wp2_with fail
  cases hf : fewB X with
  | false =>
    rw [hf] at FW
    refine FW.mono ?_
    rintro e w1 ⟨rfl, B⟩
    go_wp2_with fail
    refine (awake_any w1 (HTb.out.keep B)).mono ?_
    rintro e w2 ⟨rfl, b2⟩
    go_wp2_with fail
    go_ret
    exact ⟨rfl, B.trans (b2.mono B.size)⟩
  | true =>
    rw [hf] at FW
    have HF := hid (few_yes hf)
    refine FW.mono ?_
    rintro e w1 ⟨rfl, B⟩
    clear FW hf
    by_cases hm2 : m2 ≤ 20
    rotate_left
    · have t2 : (m2 : Int) > 20 := by omega
      go_wp2_with fail
      refine (awake_any w1 (HTb.out.keep B)).mono ?_
      rintro e w2 ⟨rfl, b2⟩
      go_wp2_with fail
      go_ret
      exact ⟨rfl, B.trans (b2.mono B.size)⟩
    have t2 : ¬ (m2 : Int) > 20 := by omega
    obtain ⟨nn, hnn⟩ : ∃ z, n0 % 6 = z := ⟨_, rfl⟩
    have q1 : (n0 : Int).tmod 6 = (nn : Int) := by rw [Int.tmod_eq_emod_of_nonneg (by omega)]; omega
    have h1 : nn < 6 := by omega
    clear hnn
    obtain ⟨q, hq⟩ : ∃ z, nn + 1 = z := ⟨_, rfl⟩
    have q3 := IntWalk.i64_in (nn : Int) (by omega)
    have q4 : (nn : Int) + 1 = (q : Int) := by omega
    have q5 := IntWalk.i64_in (q : Int) (by omega)
    have hq1 : 1 ≤ q ∧ q ≤ 6 := by omega
    clear hq h1
    go_wp2_with fail
    have R := begin_any (M := fun _ => True) q 0 w1 (HTb.out.keep B) (fun _ _ => trivial) hq1.1 (by omega) (by omega)
    try rw [show ((0 : Nat) : Int) = 0 from rfl] at R
    refine R.mono ?_
    clear R
    rintro e w2 ⟨F, x, D, rfl, H, b2⟩
    have B2 := B.trans (b2.mono B.size)
    clear b2 B
    have hp := H.sim.pok
    have HH := hid (H.lt.mono (M' := fun b => b ≠ w2.heap.size) (fun b hb => Nat.ne_of_lt hb.2))
    clear H q1 q3 q4 q5
    obtain ⟨N, hN⟩ : ∃ z, 0 + 8 * (q + 2) + 1 = z := ⟨_, rfl⟩
    rw [hN] at HH
    have hN2 : N = 8 * q + 17 := by omega
    clear hN
    go_wp2_with (first
      | ((with_reducible refine is_alloc 63 ?_); refine wp_allocB (w := w2) _ arrSto ?_; intro w3 k3 b3 s3; go_frame)
      | ((with_reducible refine is_store 63 ?_); refine wp_storeT w2.heap.size _ x hp k3 (by rw [StV.cs_len Pgr.zero_ok]) rfl rfl ?_; intro w4 k4 r4; go_frame; have l4 := k4.lt))
    have hgz := B2.size
    have ba : Below w2.heap.size w2 w4 := b3.grown r4 b3.size (fun z hz => by cases hz; exact Nat.le_refl _)
    have B4 := B2.trans (ba.mono B2.size)
    replace HH := hid (HH.out.keep ba)
    clear b3 s3 k3 r4 ba B2
    generalize w2.heap.size = G at *
    have hm30 := HF.out.1
    rw [HX.out] at hm30
    go_loopw [8, 49] (fun okv i wr => ∃ (k : Nat) (x : StV) (D : Dk) (S : RS), k ≤ m ∧ i = .int .i64 k ∧ okv = .bool true ∧ Blk wr G 63 x.cs ∧ Hid (Sto F k 0 q N (fun b => b ≠ G) wr x D S) ∧ Below w.heap.size w wr) (fun _ i _ => m - (intOf i).toNat)
    case atStart => exact ⟨0, x, D, RS.new q, Nat.zero_le _, rfl, rfl, k4, HH, B4⟩
    case round =>
      clear HH B4 k4 hp
      obtain ⟨k, x, D, S, hk, rfl, rfl, kx, HH, hbel⟩ := hrel
      by_cases hlt : k < m
      · obtain ⟨b, off, a, rfl, hbb, hx, hcell⟩ := (HR.out.below hbel).el (f := Ac.cs) (fun _ => rfl) hlt (by omega)
        have C0 := hcell 0 _ rfl
        have C1 := hcell 1 _ rfl
        have C2 := hcell 2 _ rfl
        have C3 := hcell 3 _ rfl
        have C4 := hcell 4 _ rfl
        rw [Nat.add_zero] at C0
        have hmem := List.mem_of_getElem? hx
        have HA := hid (And.intro (HOK.out a hmem) (HF.out.2 a hmem))
        clear hcell hx hmem
        have tk : (k : Int) < (m : Int) := by omega
        have hp := HH.out.sim.pok
        have hgr : G < wr.heap.size := kx.lt
        go_wp2_with (first
          | ((with_reducible refine is_alloc 66 ?_); refine wp_allocB (w := wr) _ arrAct ?_; intro w5 k5 b5 s5; go_frame)
          | ((with_reducible refine is_store 66 ?_); refine wp_storeB wr.heap.size _ _ a.cs k5 actN rfl (ac_one _) rfl rfl ?_; intro w6 k6 r6; go_frame; obtain ⟨a0, a1, a2, a3, a4⟩ := k6.c5; have l6 := k6.lt; have kx6 := (kx.keep b5).grown r6 (by simp; omega))
          | ((with_reducible refine is_load 63 ?_); refine wp_loadT G x hp kx6 rfl ?_; go_frame))
        have ba : Below wr.heap.size wr w6 := b5.grown r6 b5.size (fun z hz => by cases hz; exact Nat.le_refl _)
        have B6 := hbel.trans (ba.mono hbel.size)
        replace HH := hid (HH.out.keep ba)
        clear b5 s5 k5 r6 ba a0 a1 a2 a3 a4 C0 C1 C2 C3 C4 hbel kx l6 k6
        refine (do_any x a D S w6 (HTb.out.keep B6) HH.out (fun b hb => by have := kx6.lt; omega) (by omega) HA.out.1 HA.out.2).mono ?_
        rintro e w7 ⟨y, D', S', rfl, HY0, b7⟩
        have HY := hid HY0.lt
        have hpy := HY0.sim.pok
        have B7 := B6.trans (b7.mono B6.size)
        have kx7 := kx6.keep b7
        clear HY0 b7 B6 kx6 HH
        have lx7 := kx7.lt
        have hs7 := B7.size
        go_wp2_with (first
          | ((with_reducible refine is_alloc 63 ?_); refine wp_allocB (w := w7) _ arrSto ?_; intro w8 k8 b8 s8; go_frame)
          | ((with_reducible refine is_store 63 ?_); refine wp_storeT w7.heap.size _ y hpy k8 (by rw [StV.cs_len Pgr.zero_ok]) rfl rfl ?_; intro w9 k9 r9; go_frame; have l9 := k9.lt; have kx9 := (kx7.keep b8).grown r9 (by simp; omega))
          | ((with_reducible refine is_load 63 ?_); refine wp_loadT w7.heap.size y hpy k9 rfl ?_; go_frame)
          | ((with_reducible refine is_store 63 ?_); refine wp_storeT G _ y hpy kx9 (StV.cs_len hp) rfl rfl ?_; intro w10 kx10 r10; go_frame))
        have B8 := B7.trans (b8.mono B7.size)
        have B9 := B8.grown r9 B8.size (fun z hz => by cases hz; exact hs7)
        have B10 := B9.grown r10 B9.size (fun z hz => by cases hz; exact hgz)
        have HY10 := (((HY.out.keep b8).var r9 k8 notSto (fun h => by have := h.2; omega)).var r10 kx9 notSto (fun h => h.1 rfl)).mono (M' := fun b => b ≠ G) (fun b hb => hb.1)
        go_roundw
        case measure => simp [intOf]; omega
        case rel => exact ⟨k + 1, y, D', S', by omega, by go_num, rfl, kx10, hid HY10, B10⟩
      · obtain rfl : k = m := by omega
        have tk : ¬ (k : Int) < (k : Int) := by omega
        have hp := HH.out.sim.pok
        have hxn : x.v.n = q := by rw [HH.out.v.n, HH.out.n]
        have hDn := HH.out.dn
        have hWk := HH.out.sim.Wk
        have lx := kx.lt
        go_wp2_with ((with_reducible refine is_load 37 ?_); refine wp_loadTPg G x hp kx rfl rfl ?_; go_frame)
        refine (disk_any x.p _).mono ?_
        rintro e w5 ⟨rfl, b5⟩
        have hd5 := HH.out.d.keep b5
        have kx5 := kx.keep b5
        have B5 := hbel.trans (b5.mono hbel.size)
        have hs5 := B5.size
        have lx5 := kx5.lt
        clear b5 kx hbel HH lx
        simp only [DV.v]
        go_wp2_with (first
          | ((with_reducible refine is_alloc 27 ?_); refine wp_allocB (w := w5) _ arrDisk ?_; intro w6 k6 b6 s6; go_frame)
          | ((with_reducible refine is_store 27 ?_); refine wp_storeB w5.heap.size _ _ x.p.d.cs k6 diskN rfl (dv_one _) rfl rfl ?_; intro w7 k7 r7; go_frame))
        have kx7 := (kx5.keep b6).grown r7 (by simp; omega)
        have kd7 : Bx w7 w5.heap.size x.p.d D := ⟨k7, (hd5.keep b6).kept (Kept.grown r7 k6 notDk)⟩
        have B7 := (B5.trans (b6.mono B5.size)).grown r7 (B5.trans (b6.mono B5.size)).size (fun z hz => by cases hz; exact hs5)
        clear b6 s6 k6 k7 r7 kx5 hd5 B5
        generalize w5.heap.size = GD at *
        have hgd : ¬ G = GD ∧ ¬ GD = G := by omega
        go_loopw [70] (fun i wr => ∃ (j : Nat) (d : DV) (D : Dk), j ≤ m2 ∧ i = .int .i64 j ∧ Bx wr GD d D ∧ D.n = N ∧ D.W.length ≤ 8 * k + j ∧ Blk wr G 63 x.cs ∧ Below w.heap.size w wr) (fun i _ => m2 - (intOf i).toNat)
        case atStart => exact ⟨0, _, D, Nat.zero_le _, rfl, kd7, hDn, by omega, kx7, B7⟩
        case round =>
          clear kd7 hDn hWk kx7 B7
          obtain ⟨j, d, D, hj, rfl, kd, hDn, hDW, kx, hbel⟩ := hrel
          by_cases hlt2 : j < m2
          · obtain ⟨b, off, ⟨y1, y2⟩, rfl, hbb, hx, hcell⟩ := (HR2.out.below hbel).el (f := chCs) (fun _ => rfl) hlt2 (by omega)
            have C0 := hcell 0 _ rfl
            have C1 := hcell 1 _ rfl
            rw [Nat.add_zero] at C0
            have hyy := HOK2.out _ (List.mem_of_getElem? hx)
            dsimp only at hyy C0 C1
            clear hcell hx
            have tj : (j : Int) < (m2 : Int) := by omega
            have lD := kd.k.lt
            have lG := kx.lt
            obtain ⟨qa, hqa⟩ : ∃ z, y1 / 128 = z := ⟨_, rfl⟩
            obtain ⟨sa, hsa⟩ : ∃ z, qa % 16 = z := ⟨_, rfl⟩
            obtain ⟨ri, hri⟩ : ∃ z, y1 % 128 = z := ⟨_, rfl⟩
            have q1 : (y1 : Int).tdiv 128 = (qa : Int) := by rw [Int.tdiv_eq_ediv_of_nonneg (by omega)]; omega
            have q0 : IntKind.u16.wrap (qa : Int) = (qa : Int) := by
              show (qa : Int) % 65536 = (qa : Int)
              omega
            have q0r : IntKind.u16.wrap (ri : Int) = (ri : Int) := by
              show (ri : Int) % 65536 = (ri : Int)
              omega
            have q2 := IntWalk.i64_in (qa : Int) (by omega)
            have q3 : (qa : Int).tmod 16 = (sa : Int) := by rw [Int.tmod_eq_emod_of_nonneg (by omega)]; omega
            have q4 := IntWalk.i64_in (sa : Int) (by omega)
            have q5 : (y1 : Int).tmod 128 = (ri : Int) := by rw [Int.tmod_eq_emod_of_nonneg (by omega)]; omega
            have q6 : IntKind.u8.wrap (y2 : Int) = N8 (UInt8.ofNat y2) := by
              show (y2 : Int) % 256 = ((UInt8.ofNat y2).toNat : Int)
              rw [UInt8.toNat_ofNat']
              omega
            have q7 := IntWalk.i64_in (ri : Int) (by omega)
            have hsa16 : sa < 16 := by omega
            have hri8 : ri < 128 := by omega
            have ej := IntWalk.i64_in ((j : Int) + 1) (by omega)
            clear hqa hsa hri
            go_wp2_with (first
              | ((with_reducible refine is_alloc 75 ?_); refine wp_allocB (w := wr) _ arrU2 ?_; intro w5 k5 b5 s5; go_frame)
              | ((with_reducible refine is_store 75 ?_); refine wp_storeB wr.heap.size _ _ [.int .u16 y1, .int .u16 y2] k5 u2N rfl (by intro v hv; simp only [List.mem_cons, List.not_mem_nil, or_false] at hv; rcases hv with rfl | rfl <;> rfl) rfl rfl ?_; intro w6 ka r6; go_frame; obtain ⟨a0, a1⟩ := ka.c2; have la := ka.lt; have kd6 := (kd.k.keep b5).grown r6 (by simp; omega); obtain ⟨y0, y1', y2', y3, y4⟩ := kd6.c5; have ld6 := kd6.lt))
            have ba : Below wr.heap.size wr w6 := b5.grown r6 b5.size (fun z hz => by cases hz; exact Nat.le_refl _)
            have kdd : Bx w6 GD d D := ⟨kd6, kd.d.keep ba⟩
            have kx6 := kx.keep ba
            have B6 := hbel.trans (ba.mono hbel.size)
            have hgaD : GD < wr.heap.size ∧ G < wr.heap.size := ⟨lD, lG⟩
            have hga := hbel.size
            clear b5 s5 k5 r6 ba kd6 kd kx hbel C0 C1 hbb lD lG
            obtain ⟨ga, hgae⟩ : ∃ z, wr.heap.size = z := ⟨_, rfl⟩
            rw [hgae] at ka hgaD hga la a0 a1 ⊢
            clear hgae
            have R := read_good d D sa w6 kdd.d (by omega)
            simp only [DV.v] at R
            refine R.mono ?_
            clear R a0 a1 y0 y1' y2' y3 y4 ld6 la
            rintro e w7 ⟨gr, rfl, hown, b7⟩
            have kr : BlkB w7 gr 5 (D.cur sa) := own_blk hown
            have hrl : (D.cur sa).length = 128 := kdd.d.len (by omega)
            have hgr6 : w6.heap.size ≤ gr := by
              have := (hown.lt gr rfl).1
              exact this
            have la6 := ka.lt
            have B6s := hid B6.size
            replace ka := ka.keep b7
            have kd7 := kdd.keep b7
            have kx7 := kx6.keep b7
            have B7 := B6.trans (b7.mono B6.size)
            clear b7 kdd kx6 B6 hown
            obtain ⟨bv, hbv⟩ : ∃ z, (D.cur sa)[ri]? = some z := ⟨_, List.getElem?_eq_getElem (by omega)⟩
            have cB : w7.cell? ⟨gr, ri, none⟩ = some (.int .u8 (N8 bv)) := (Blk.cell kr ri).trans (by rw [List.getElem?_map, hbv]; rfl)
            have lgr := Blk.lt kr
            have tri : (ri : Int) < 128 := by omega
            go_wp2_with fail
            refine wp_region_head 209 11 [91, 92, 93, 94, 95, 96, 97, 98, 99, 100, 101] [] ((fun kq => ([fun u w' => u = .slice (some ⟨gr, 0, none⟩) 128 128, fun u w' => u = .pointer (some ⟨ga, 0, none⟩), fun u w' => u = .int .u16 y1, fun u w' => u = .int .u16 (ri : Int), fun u w' => u = .pointer (some ⟨gr, ri, none⟩), fun u w' => u = .int .u8 (N8 bv), fun u w' => u = .pointer (some ⟨ga, 1, none⟩), fun u w' => u = .int .u16 y2, fun u w' => u = .int .u8 (N8 (UInt8.ofNat y2)), fun u w' => u = .int .u8 (N8 (bv ^^^ UInt8.ofNat y2)), fun u w' => u = .pointer (some ⟨gr, ri, none⟩)] : List (Value → World → Prop)).getD kq (fun _ _ => True))) (by kernel_rfl) rfl (by kernel_rfl) (.inl rfl) ?grow ?step ?tail
            case step =>
              simp only [List.take_succ_cons, List.take_zero]
              refine HSteps.cons ?_ ?_
              · intro f w' hb hU
                simp only [putAll, List.foldl_cons, List.foldl_nil]
                go_frame
                go_wp2_with fail
                exact ⟨rfl, _, rfl, Below.refl _ _, rfl⟩
              refine HSteps.cons ?_ ?_
              · intro f w' hb hU
                simp only [putAll, List.foldl_cons, List.foldl_nil]
                go_frame
                go_wp2_with fail
                exact ⟨rfl, _, rfl, Below.refl _ _, rfl⟩
              refine HSteps.cons ?_ ?_
              · intro f w' hb hU
                obtain u1 : f 92 = .pointer (some ⟨ga, 0, none⟩) := hU.get ⟨1, .data⟩ (by simp) rfl
                obtain ⟨p0, p1⟩ := (ka.keep hb).c2
                simp only [putAll, List.foldl_cons, List.foldl_nil]
                go_frame
                try simp only [u1]
                go_wp2_with fail
                exact ⟨rfl, _, rfl, Below.refl _ _, rfl⟩
              refine HSteps.cons ?_ ?_
              · intro f w' hb hU
                obtain u2 : f 93 = .int .u16 y1 := hU.get ⟨2, .data⟩ (by simp) rfl
                simp only [putAll, List.foldl_cons, List.foldl_nil]
                go_frame
                try simp only [u2]
                go_wp2_with fail
                exact ⟨rfl, _, rfl, Below.refl _ _, rfl⟩
              refine HSteps.cons ?_ ?_
              · intro f w' hb hU
                obtain u0 : f 91 = .slice (some ⟨gr, 0, none⟩) 128 128 := hU.get ⟨0, .data⟩ (by simp) rfl
                obtain u3 : f 94 = .int .u16 (ri : Int) := hU.get ⟨3, .data⟩ (by simp) rfl
                simp only [putAll, List.foldl_cons, List.foldl_nil]
                go_frame
                try simp only [u0, u3]
                go_wp2_with fail
                exact ⟨rfl, _, rfl, Below.refl _ _, rfl⟩
              refine HSteps.cons ?_ ?_
              · intro f w' hb hU
                obtain u4 : f 95 = .pointer (some ⟨gr, ri, none⟩) := hU.get ⟨4, .data⟩ (by simp) rfl
                have cb := (hb.cell lgr).trans cB
                simp only [putAll, List.foldl_cons, List.foldl_nil]
                go_frame
                try simp only [u4]
                go_wp2_with fail
                exact ⟨rfl, _, rfl, Below.refl _ _, rfl⟩
              refine HSteps.cons ?_ ?_
              · intro f w' hb hU
                simp only [putAll, List.foldl_cons, List.foldl_nil]
                go_frame
                go_wp2_with fail
                exact ⟨rfl, _, rfl, Below.refl _ _, rfl⟩
              refine HSteps.cons ?_ ?_
              · intro f w' hb hU
                obtain u6 : f 97 = .pointer (some ⟨ga, 1, none⟩) := hU.get ⟨6, .data⟩ (by simp) rfl
                obtain ⟨p0, p1⟩ := (ka.keep hb).c2
                simp only [putAll, List.foldl_cons, List.foldl_nil]
                go_frame
                try simp only [u6]
                go_wp2_with fail
                exact ⟨rfl, _, rfl, Below.refl _ _, rfl⟩
              refine HSteps.cons ?_ ?_
              · intro f w' hb hU
                obtain u7 : f 98 = .int .u16 y2 := hU.get ⟨7, .data⟩ (by simp) rfl
                simp only [putAll, List.foldl_cons, List.foldl_nil]
                go_frame
                try simp only [u7]
                go_wp2_with fail
                exact ⟨rfl, _, rfl, Below.refl _ _, rfl⟩
              refine HSteps.cons ?_ ?_
              · intro f w' hb hU
                obtain u5 : f 96 = .int .u8 (N8 bv) := hU.get ⟨5, .data⟩ (by simp) rfl
                obtain u8 : f 99 = .int .u8 (N8 (UInt8.ofNat y2)) := hU.get ⟨8, .data⟩ (by simp) rfl
                simp only [putAll, List.foldl_cons, List.foldl_nil]
                go_frame
                try simp only [u5, u8]
                go_wp2_with fail
                exact ⟨rfl, _, rfl, Below.refl _ _, rfl⟩
              refine HSteps.cons ?_ ?_
              · intro f w' hb hU
                obtain u0 : f 91 = .slice (some ⟨gr, 0, none⟩) 128 128 := hU.get ⟨0, .data⟩ (by simp) rfl
                obtain u3 : f 94 = .int .u16 (ri : Int) := hU.get ⟨3, .data⟩ (by simp) rfl
                obtain u1 : f 92 = .pointer (some ⟨ga, 0, none⟩) := hU.get ⟨1, .phase⟩ (by simp) rfl
                obtain u2 : f 93 = .int .u16 y1 := hU.get ⟨2, .phase⟩ (by simp) rfl
                obtain u4 : f 95 = .pointer (some ⟨gr, ri, none⟩) := hU.get ⟨4, .phase⟩ (by simp) rfl
                obtain u5 : f 96 = .int .u8 (N8 bv) := hU.get ⟨5, .phase⟩ (by simp) rfl
                obtain u6 : f 97 = .pointer (some ⟨ga, 1, none⟩) := hU.get ⟨6, .phase⟩ (by simp) rfl
                obtain u7 : f 98 = .int .u16 y2 := hU.get ⟨7, .phase⟩ (by simp) rfl
                obtain u8 : f 99 = .int .u8 (N8 (UInt8.ofNat y2)) := hU.get ⟨8, .phase⟩ (by simp) rfl
                obtain u9 : f 100 = .int .u8 (N8 (bv ^^^ UInt8.ofNat y2)) := hU.get ⟨9, .phase⟩ (by simp) rfl
                simp only [putAll, List.foldl_cons, List.foldl_nil]
                go_frame
                try simp only [u0, u3, u1, u2, u4, u5, u6, u7, u8, u9]
                go_wp2_with fail
                exact ⟨rfl, _, rfl, Below.refl _ _, rfl⟩
              exact HSteps.nil
            case grow =>
              intro kq u wa wb hb hu
              rcases kq with _ | _ | _ | _ | _ | _ | _ | _ | _ | _ | _ | kq
              · exact hu
              · exact hu
              · exact hu
              · exact hu
              · exact hu
              · exact hu
              · exact hu
              · exact hu
              · exact hu
              · exact hu
              · exact hu
              · trivial
            case tail =>
              intro f w7 hb7 hU
              obtain u9 : f 100 = .int .u8 (N8 (bv ^^^ UInt8.ofNat y2)) := hU.get 9 (by decide)
              obtain u10 : f 101 = .pointer (some ⟨gr, ri, none⟩) := hU.get 10 (by decide)
              simp only [List.drop_succ_cons, List.drop_zero, putAll, List.foldl_cons, List.foldl_nil]
              go_frame
              simp only [u9, u10]
              clear u9 u10
              clear hU
              have ka8 := ka.keep hb7
              have kx8 := kx7.keep hb7
              have kr8 : BlkB _ gr 5 (D.cur sa) := Blk.keep kr hb7
              have kd8 := kd7.keep hb7
              have B8 := B7.trans (hb7.mono B7.size)
              clear ka kx7 kr kd7 B7 hb7 cB lgr
              go_wp2_with ((with_reducible refine is_store 5 ?_); refine wp_store1 gr ri _ _ (.int .u8 (N8 (bv ^^^ UInt8.ofNat y2))) kr8 rfl slN.2.1 (by rw [List.length_map]; omega) rfl rfl rfl ?_; intro w9 kr9 r9; go_frame; have kd9 := kd8.k.grown r9 (by simp; omega); have ka9 := ka8.grown r9 (by simp; omega); obtain ⟨z0, z1, z2, z3, z4⟩ := kd9.c5; obtain ⟨z5, z6⟩ := ka9.c2; have ld9 := kd9.lt; have la9 := ka9.lt)
              have kr9' : BlkB w9 gr 5 ((D.cur sa).set ri (bv ^^^ UInt8.ofNat y2)) := by
                unfold BlkB
                rw [List.map_set]
                exact kr9
              have hd9 := kd8.d.kept (Kept.grown r9 (show Blk _ gr 5 _ from kr8) (by unfold dkT; decide))
              have kx9 := kx8.grown r9 (by simp; omega)
              have B9 := B8.grown r9 B8.size (fun z hz => by cases hz; have := B6s.out; omega)
              have R := write_good d D (some ⟨gr, 0, none⟩) 128 _ sa w9 hd9 (by omega) (BlkB.cells kr9' (by rw [List.length_set]; exact hrl)) (by omega)
              simp only [DV.v] at R
              refine R.mono ?_
              clear R z0 z1 z2 z3 z4 z5 z6 ld9 la9 r9 kr9 kr9' hd9 kr8 ka8 ka9 kd8 kx8 B8
              rintro e wA ⟨dy, rfl, hdy, bA⟩
              have kdA := kd9.keep bA
              have kxA := kx9.keep bA
              have BA := B9.trans (bA.mono B9.size)
              clear bA kd9 kx9 B9
              go_wp2_with ((with_reducible refine is_store 27 ?_); refine wp_storeB GD _ _ dy.cs kdA diskN rfl (dv_one _) rfl rfl ?_; intro wB kB rB; go_frame)
              have hdB := hdy.kept (Kept.grown rB kdA notDk)
              have kxB := kxA.grown rB (by simp; omega)
              have BB := BA.grown rB BA.size (fun z hz => by cases hz; exact hs5)
              clear kdA kxA BA rB hdy
              go_roundw
              case measure => simp [intOf]; omega
              case rel => exact ⟨j + 1, dy, D.write sa ((D.cur sa).set ri (bv ^^^ UInt8.ofNat y2)), by omega, by go_num, ⟨kB, hdB⟩, hDn, by show (_ :: D.W).length ≤ _; rw [List.length_cons]; omega, kxB, BB⟩
          · obtain rfl : j = m2 := by omega
            have tj : ¬ (j : Int) < (j : Int) := by omega
            obtain ⟨UP, hUP⟩ : ∃ z : Nat → Option Sta, (fun r => upto (rootAt D 0 q 0) (rootAt D 0 q 1) r) = z := ⟨_, rfl⟩
            have HU0 : Hid (UP 0 = none) := hid (by rw [← hUP]; rfl)
            have HU1 : Hid (∀ r, r < 2 → UP (r + 1) = later13 (UP r) (rootF D.cur 0 q r)) := hid fun r hr => by
              rw [← hUP]
              show upto _ _ (r + 1) = later13 (upto _ _ r) _
              rw [upto_succ _ _ _ hr]
              congr 1
              match r, hr with
              | 0, _ => rfl
              | 1, _ => rfl
            have HU2 : Hid (UP 2 = openOf D 0 q) := hid (by rw [← hUP]; rfl)
            clear hUP
            have lG := kx.lt
            have lD := kd.k.lt
            have hsr := hbel.size
            go_wp2_with ((with_reducible refine is_alloc 60 ?_); refine wp_allocB (w := wr) _ arrRS ?_; intro w5 kW b5 s5; go_frame)
            have kd5 := kd.keep b5
            have kx5 := kx.keep b5
            have B5 := hbel.trans (b5.mono hbel.size)
            clear b5 s5 kd kx hbel
            obtain ⟨gW, hgW⟩ : ∃ z, wr.heap.size = z := ⟨_, rfl⟩
            rw [hgW] at kW lG lD hsr ⊢
            clear hgW
            have hgw : ¬ G = gW ∧ ¬ gW = G ∧ ¬ GD = gW ∧ ¬ gW = GD := by omega
            go_loopw [114] (fun i wr => ∃ (rd : Nat) (V : RV), rd ≤ 2 ∧ i = .int .i64 rd ∧ Blk wr gW 60 V.cs ∧ Hid (Want (fun b => b ≠ gW) q (UP rd) V wr) ∧ Bx wr GD d D ∧ Blk wr G 63 x.cs ∧ Below w.heap.size w wr) (fun i _ => 2 - (intOf i).toNat)
            case atStart => exact ⟨0, RV.zero, by omega, rfl, kW, hid (by rw [HU0.out]; exact Want.none_ _ q _), kd5, kx5, B5⟩
            case round =>
              clear kW kd5 kx5 B5
              obtain ⟨rd, V, hrd, rfl, kW, HWa, kd, kx, hbel⟩ := hrel
              have er := IntWalk.i64_in ((rd : Int) + 1) (by omega)
              by_cases hlt3 : rd < 2
              · have tr : (rd : Int) < 2 := by omega
                obtain ⟨OR, hOR⟩ : ∃ z, rootF D.cur 0 q rd = z := ⟨_, rfl⟩
                have HOR : Hid (UP (rd + 1) = later13 (UP rd) OR) := hid (by rw [HU1.out rd hlt3, hOR])
                have HORn : Hid (∀ s, OR = some s → s.num ≠ 0) := hid fun s hs => (stored_some (by rw [← hs, ← hOR]; rfl)).1
                obtain ⟨SB, hSB⟩ : ∃ z, secs D.cur (8 * rd) 8 = z := ⟨_, rfl⟩
                obtain ⟨bO, hbO⟩ : ∃ z, OR.isSome = z := ⟨_, rfl⟩
                have HSl : Hid (∀ w', Below wr.heap.size wr w' → Calls Tryd.prog 32 #[d.v, .int .i64 0, .int .i64 rd] w' fun e w'' => ∃ A1 c1, e = .returned (.slice A1 1024 c1) ∧ (RB w'' A1 1024 SB ∧ 1024 ≤ c1 ∧ c1 ≤ 9223372036854775807) ∧ Below w'.heap.size w' w'') := hid fun w' hb => by
                  have R := slot_any13 d D 0 rd w' (kd.d.keep hb) (by omega)
                  rw [show 0 + 8 * rd = 8 * rd by omega, hSB] at R
                  exact R.mono fun e w'' ⟨A1, c1, h1, h2, h3, h4, h5⟩ => ⟨A1, c1, h1, ⟨RL.of_own h2, h3, h4⟩, h5⟩
                have HRo : Hid (∀ w' A1 c1, RB w' A1 1024 SB → 1024 ≤ c1 → c1 ≤ 9223372036854775807 → Calls Tryd.prog 31 #[.slice A1 1024 c1, .int .i64 rd, .int .i64 q] w' fun e w'' => ∃ v : RV, e = .returned (.tuple #[v.v, .bool bO]) ∧ RootF q OR v bO w'' ∧ Below w'.heap.size w' w'') := hid fun w' A1 c1 h1 h2 h3 => by
                  have R := refRoot_any A1 c1 SB rd q w' h1 h2 h3 hlt3 (by omega)
                  have e : storedOf (decoded SB) rd q = OR := by rw [← hSB, ← hOR]; unfold rootF; rw [show 0 + 8 * rd = 8 * rd by omega]
                  rw [e] at R
                  refine R.mono fun e w'' ⟨⟨v, bo, g1, g2⟩, g3⟩ => ?_
                  have hbo : bo = bO := by
                    rw [← hbO]
                    cases hq : OR with
                    | none => exact (g2.no hq).2
                    | some s => exact (g2.yes s hq).1
                  rw [hbo] at g1 g2
                  exact ⟨v, g1, g2, g3⟩
                have HYN := hid (fun w' (hb : Below wr.heap.size wr w') => (show w'.cell? ⟨G, 266, none⟩ = some (.int .i64 q) by
                  have h := StV.cellN hp (kx.keep hb)
                  rw [hxn] at h
                  exact h))
                have HBO := hid hbO
                clear hOR hSB hbO
                have lW := kW.lt
                have lGx := kx.lt
                have lDx := kd.k.lt
                have hwr := hbel.size
                go_wp2_with fail
                refine wp_region_headF 209 12 [118, 119, 120, 121, 122, 123, 124, 125, 117, 126, 127, 20] [10] ((fun kq => ([fun u w' => u = d.v, fun u w' => u = .int .i64 (rd : Int), fun u w' => ∃ (A1 : Option Addr), ∃ (c1 : Nat), u = .slice A1 1024 c1 ∧ RB w' A1 1024 SB ∧ 1024 ≤ c1 ∧ c1 ≤ 9223372036854775807, fun u w' => u = .int .i64 (rd : Int), fun u w' => u = .pointer (some ⟨G, 266, none⟩), fun u w' => u = .pointer (some ⟨G, 266, none⟩), fun u w' => u = .int .i64 (q : Int), fun u w' => ∃ (vr : RV), u = .tuple #[vr.v, .bool bO] ∧ RootF q OR vr bO w', fun u w' => ∃ (vr : RV), u = .tuple #[vr.v, .bool bO] ∧ RootF q OR vr bO w', fun u w' => ∃ (vr : RV), u = vr.v ∧ RootF q OR vr bO w', fun u w' => u = .bool bO, fun u w' => ∃ (b20 : Nat), u = .pointer (some ⟨b20, 0, none⟩) ∧ wr.heap.size ≤ b20 ∧ Blk w' b20 60 RV.zero.cs] : List (Value → World → Prop)).getD kq (fun _ _ => True))) (by kernel_rfl) rfl (by kernel_rfl) ?grow ?step ?tail
                case step =>
                  simp only [List.take_succ_cons, List.take_zero]
                  refine HSteps.cons ?_ ?_
                  · intro f w' hb hU
                    obtain ⟨x0', x1', x2', x3', x4'⟩ := (kd.k.keep hb).c5
                    simp only [putAll, List.foldl_cons, List.foldl_nil]
                    go_frame
                    go_wp2_with fail
                    exact ⟨rfl, _, rfl, Below.refl _ _, rfl⟩
                  refine HSteps.cons ?_ ?_
                  · intro f w' hb hU
                    simp only [putAll, List.foldl_cons, List.foldl_nil]
                    go_frame
                    go_wp2_with fail
                    exact ⟨rfl, _, rfl, Below.refl _ _, rfl⟩
                  refine HSteps.cons ?_ ?_
                  · intro f w' hb hU
                    obtain u0 : f 118 = d.v := hU.get ⟨0, .data⟩ (by simp) rfl
                    obtain u1 : f 119 = .int .i64 (rd : Int) := hU.get ⟨1, .data⟩ (by simp) rfl
                    simp only [putAll, List.foldl_cons, List.foldl_nil]
                    go_frame
                    try simp only [u0, u1]
                    go_wp2_with fail
                    refine (HSl.out w' hb).mono ?_
                    rintro e w3 ⟨A1, c1, rfl, hr1, b3⟩
                    go_wp2_with fail
                    exact ⟨rfl, _, rfl, b3, A1, c1, rfl, hr1.1, hr1.2⟩
                  refine HSteps.cons ?_ ?_
                  · intro f w' hb hU
                    simp only [putAll, List.foldl_cons, List.foldl_nil]
                    go_frame
                    go_wp2_with fail
                    exact ⟨rfl, _, rfl, Below.refl _ _, rfl⟩
                  refine HSteps.cons ?_ ?_
                  · intro f w' hb hU
                    simp only [putAll, List.foldl_cons, List.foldl_nil]
                    go_frame
                    go_wp2_with fail
                    exact ⟨rfl, _, rfl, Below.refl _ _, rfl⟩
                  refine HSteps.cons ?_ ?_
                  · intro f w' hb hU
                    obtain u4 : f 122 = .pointer (some ⟨G, 266, none⟩) := hU.get ⟨4, .data⟩ (by simp) rfl
                    simp only [putAll, List.foldl_cons, List.foldl_nil]
                    go_frame
                    try simp only [u4]
                    go_wp2_with fail
                    exact ⟨rfl, _, rfl, Below.refl _ _, rfl⟩
                  refine HSteps.cons ?_ ?_
                  · intro f w' hb hU
                    obtain u5 : f 123 = .pointer (some ⟨G, 266, none⟩) := hU.get ⟨5, .data⟩ (by simp) rfl
                    have yN := HYN.out w' hb
                    simp only [putAll, List.foldl_cons, List.foldl_nil]
                    go_frame
                    try simp only [u5]
                    go_wp2_with fail
                    exact ⟨rfl, _, rfl, Below.refl _ _, rfl⟩
                  refine HSteps.cons ?_ ?_
                  · intro f w' hb hU
                    obtain ⟨A1, c1, u2, v2_0, v2_1⟩ : ∃ (A1 : Option Addr), ∃ (c1 : Nat), f 120 = .slice A1 1024 c1 ∧ RB w' A1 1024 SB ∧ 1024 ≤ c1 ∧ c1 ≤ 9223372036854775807 := hU.get ⟨2, .data⟩ (by simp) rfl
                    obtain u3 : f 121 = .int .i64 (rd : Int) := hU.get ⟨3, .data⟩ (by simp) rfl
                    obtain u6 : f 124 = .int .i64 (q : Int) := hU.get ⟨6, .data⟩ (by simp) rfl
                    simp only [putAll, List.foldl_cons, List.foldl_nil]
                    go_frame
                    try simp only [u2, u3, u6]
                    go_wp2_with fail
                    refine (HRo.out w' A1 c1 v2_0 v2_1.1 v2_1.2).mono ?_
                    rintro e w3 ⟨vr, rfl, hrf, b3⟩
                    go_wp2_with fail
                    exact ⟨rfl, _, rfl, b3, vr, rfl, hrf⟩
                  refine HSteps.cons ?_ ?_
                  · intro f w' hb hU
                    obtain ⟨vr, u7, v7_0⟩ : ∃ (vr : RV), f 125 = .tuple #[vr.v, .bool bO] ∧ RootF q OR vr bO w' := hU.get ⟨7, .data⟩ (by simp) rfl
                    simp only [putAll, List.foldl_cons, List.foldl_nil]
                    go_frame
                    try simp only [u7]
                    go_wp2_with fail
                    exact ⟨rfl, _, rfl, Below.refl _ _, vr, rfl, v7_0⟩
                  refine HSteps.cons ?_ ?_
                  · intro f w' hb hU
                    obtain ⟨vr, u8, v8_0⟩ : ∃ (vr : RV), f 117 = .tuple #[vr.v, .bool bO] ∧ RootF q OR vr bO w' := hU.get ⟨8, .data⟩ (by simp) rfl
                    simp only [putAll, List.foldl_cons, List.foldl_nil]
                    go_frame
                    try simp only [u8]
                    go_wp2_with fail
                    exact ⟨rfl, _, rfl, Below.refl _ _, vr, rfl, v8_0⟩
                  refine HSteps.cons ?_ ?_
                  · intro f w' hb hU
                    obtain ⟨vr, u8, v8_0⟩ : ∃ (vr : RV), f 117 = .tuple #[vr.v, .bool bO] ∧ RootF q OR vr bO w' := hU.get ⟨8, .data⟩ (by simp) rfl
                    simp only [putAll, List.foldl_cons, List.foldl_nil]
                    go_frame
                    try simp only [u8]
                    go_wp2_with fail
                    exact ⟨rfl, _, rfl, Below.refl _ _, rfl⟩
                  refine HSteps.cons ?_ ?_
                  · intro f w' hb hU
                    have hP : Blk _ w'.heap.size 60 RV.zero.cs := Blk.new w' _ _
                    have hb3 : Below w'.heap.size w' _ := (Below.refl _ _).alloc (Nat.le_refl _) (.cells (RV.zero.cs).toArray 60)
                    simp only [putAll, List.foldl_cons, List.foldl_nil]
                    go_frame
                    go_wp2_with fail
                    exact ⟨rfl, _, rfl, hb3, _, rfl, hb.size, hP⟩
                  exact HSteps.nil
                case grow =>
                  intro kq u wa wb hb hu
                  rcases kq with _ | _ | _ | _ | _ | _ | _ | _ | _ | _ | _ | _ | kq
                  · exact hu
                  · exact hu
                  · obtain ⟨A1, c1, ue, uf0, uf1⟩ := hu
                    exact ⟨A1, c1, ue, uf0.below hb, uf1⟩
                  · exact hu
                  · exact hu
                  · exact hu
                  · exact hu
                  · obtain ⟨vr, ue, uf0⟩ := hu
                    exact ⟨vr, ue, uf0.keep hb⟩
                  · obtain ⟨vr, ue, uf0⟩ := hu
                    exact ⟨vr, ue, uf0.keep hb⟩
                  · obtain ⟨vr, ue, uf0⟩ := hu
                    exact ⟨vr, ue, uf0.keep hb⟩
                  · exact hu
                  · obtain ⟨b20, ue, uf0, uf1⟩ := hu
                    exact ⟨b20, ue, uf0, uf1.keep hb⟩
                  · trivial
                case tail =>
                  intro f w7 hb7 hU
                  obtain ⟨vr, u9, v9_0⟩ : ∃ (vr : RV), f 126 = vr.v ∧ RootF q OR vr bO w7 := hU.get 9 (by decide)
                  obtain u10 : f 127 = .bool bO := hU.get 10 (by decide)
                  obtain ⟨b20, u11, v11_0, v11_1⟩ : ∃ (b20 : Nat), f 20 = .pointer (some ⟨b20, 0, none⟩) ∧ wr.heap.size ≤ b20 ∧ Blk w7 b20 60 RV.zero.cs := hU.get 11 (by decide)
                  simp only [List.drop_succ_cons, List.drop_zero, putAll, List.foldl_cons, List.foldl_nil]
                  go_frame
                  simp only [u9, u10, u11]
                  clear u9 u10 u11
                  clear hU
                  have kW7 := kW.keep hb7
                  have HW7 := hid (HWa.out.lt.keep hb7)
                  have kd7 := kd.keep hb7
                  have kx7 := kx.keep hb7
                  have B7 := hbel.trans (hb7.mono hbel.size)
                  have hgv : w.heap.size ≤ b20 := by omega
                  have nv : ¬ gW = b20 ∧ ¬ b20 = gW ∧ ¬ G = b20 ∧ ¬ GD = b20 := by omega
                  clear kW HWa kd kx hbel hb7 HSl HRo HYN
                  go_wp2_with ((with_reducible refine is_store 60 ?_); refine wp_storeR b20 _ vr v11_1 rfl rfl rfl ?_; intro w8 kv r8; go_frame)
                  refine noPanic_ok ?_
                  have kW8 := kW7.grown r8 (by simp; omega)
                  have HW8 := hid ((HW7.out.grown r8 (fun h => by have := h.2; omega)).mono (N' := fun b => b ≠ gW) (fun b hb => hb.1))
                  have kd8 : Bx w8 GD d D := ⟨kd7.k.grown r8 (by simp; omega), kd7.d.kept (Kept.grown r8 v11_1 (by unfold dkT; decide))⟩
                  have kx8 := kx7.grown r8 (by simp; omega)
                  have B8 := B7.grown r8 B7.size (fun z hz => by cases hz; exact hgv)
                  have x2 : w8.cell? ⟨b20, 2, none⟩ = some (.int .u64 (vr.num : Int)) := kv.cell 2
                  have z2 : w8.cell? ⟨gW, 2, none⟩ = some (.int .u64 (V.num : Int)) := kW8.cell 2
                  have lv := kv.lt
                  have lw := kW8.lt
                  cases hO : OR with
                  | none =>
                    obtain rfl : bO = false := by rw [← HBO.out, hO]; rfl
                    have HU := HOR.out
                    rw [hO, later_none] at HU
                    have HUh := hid HU
                    clear HU HOR HBO HORn
                    go_wp2_with fail
                    go_roundw
                    case measure => simp [intOf]; omega
                    case rel => exact ⟨rd + 1, V, by omega, by go_num, kW8, hid (by rw [HUh.out]; exact HW8.out), kd8, kx8, B8⟩
                  | some s =>
                    obtain rfl : bO = true := by rw [← HBO.out, hO]; rfl
                    have hW := v9_0.want hO v11_1 kW7
                    have HNew := hid ((hW.grown r8 (fun h => h.1 rfl)).mono (N' := fun b => b ≠ gW) (fun b hb => hb.2))
                    have hvn : vr.num = s.num := (v9_0.yes s hO).2.2.1
                    have hs0 := HORn.out s hO
                    have HU := HOR.out
                    rw [hO] at HU
                    have HUh := hid HU
                    clear HU HOR HBO HORn v9_0 hW
                    by_cases hgt : V.num < vr.num
                    · have tg : (vr.num : Int) > (V.num : Int) := by omega
                      have HEq : Hid (UP (rd + 1) = some s) := hid (by
                        rw [HUh.out]
                        refine later_yes fun t ht => ?_
                        rw [← hvn, ← (HW8.out.yes t ht).2.1]
                        exact hgt)
                      go_wp2_with (first
                        | ((with_reducible refine is_load 60 ?_); refine wp_loadR b20 vr kv rfl ?_; go_frame)
                        | ((with_reducible refine is_store 60 ?_); refine wp_storeR gW _ vr kW8 rfl rfl rfl ?_; intro w9 kW9 r9; go_frame))
                      have kd9 : Bx w9 GD d D := ⟨kd8.k.grown r9 (by simp; omega), kd8.d.kept (Kept.grown r9 kW8 (by unfold dkT; decide))⟩
                      have kx9 := kx8.grown r9 (by simp; omega)
                      have B9 := B8.grown r9 B8.size (fun z hz => by cases hz; exact hsr)
                      go_roundw
                      case measure => simp [intOf]; omega
                      case rel => exact ⟨rd + 1, vr, by omega, by go_num, kW9, hid (by rw [HEq.out]; exact HNew.out.grown r9 (fun h => h rfl)), kd9, kx9, B9⟩
                    · have tg : ¬ (vr.num : Int) > (V.num : Int) := by omega
                      have HEq : Hid (UP (rd + 1) = UP rd) := hid (by
                        rw [HUh.out]
                        cases hq : UP rd with
                        | none =>
                          have := HW8.out.no hq
                          rw [this] at hgt
                          exact absurd (show (0 : Nat) < vr.num by omega) hgt
                        | some t =>
                          refine later_no ?_
                          rw [← hvn, ← (HW8.out.yes t hq).2.1]
                          exact hgt)
                      go_wp2_with fail
                      go_roundw
                      case measure => simp [intOf]; omega
                      case rel => exact ⟨rd + 1, V, by omega, by go_num, kW8, hid (by rw [HEq.out]; exact HW8.out), kd8, kx8, B8⟩
              · obtain rfl : rd = 2 := by omega
                have tr : ¬ ((2 : Nat) : Int) < 2 := by omega
                have lx := kx.lt
                have lD := kd.k.lt
                have lW := kW.lt
                have hDd : 0 + 8 * (q + 2) ≤ D.n := by omega
                have HYN : wr.cell? ⟨G, 266, none⟩ = some (.int .i64 q) := by
                  have h := StV.cellN hp kx
                  rw [hxn] at h
                  exact h
                obtain ⟨x0, x1, x2, x3, x4⟩ := kd.k.c5
                go_wp2_with fail
                have R := open_good d D 0 q wr kd.d (HTb.out.keep hbel) (by omega) (by omega) hDd
                rw [← HU2.out] at R
                simp only [DV.v] at R
                rw [show ((0 : Nat) : Int) = 0 from rfl] at R
                cases hO : UP 2 with
                | none =>
                  rw [hO] at R
                  have hV := HWa.out.no hO
                  subst hV
                  refine R.mono ?_
                  clear R
                  rintro e w5 ⟨rfl, b5⟩
                  have kW5 := kW.keep b5
                  have B5 := hbel.trans (b5.mono hbel.size)
                  have hs5 := B5.size
                  have lW5 := kW5.lt
                  clear b5 kW kd kx hbel x0 x1 x2 x3 x4 HYN lx lD lW HWa
                  go_wp2_with (first
                    | ((with_reducible refine is_alloc 37 ?_); refine wp_allocB (w := w5) _ arrPgr ?_; intro w6 k6 b6 s6; go_frame)
                    | ((with_reducible refine is_store 37 ?_); refine wp_storeP w5.heap.size _ Pgr.zero Pgr.zero_ok k6 (by rw [Pgr.cs_len Pgr.zero_ok]) rfl rfl ?_; intro w7 k7 r7; go_frame; have kW7 := (kW5.keep b6).grown r7 (by simp; omega); have z2 : w7.cell? ⟨gW, 2, none⟩ = some (.int .u64 0) := kW7.cell 2; have lW7 := kW7.lt))
                  have B7 := (B5.trans (b6.mono B5.size)).grown r7 (B5.trans (b6.mono B5.size)).size (fun z hz => by cases hz; exact hs5)
                  refine (awake_any w7 (HTb.out.keep B7)).mono ?_
                  rintro e w8 ⟨rfl, b8⟩
                  have B8 := B7.trans (b8.mono B7.size)
                  go_wp2_with fail
                  go_ret
                  exact ⟨rfl, B8⟩
                | some s =>
                  rw [hO] at R
                  have hNW : s.num ≠ 0 ∧ within s.nu q := by
                    have h1 := HU1.out 1 (by omega)
                    have h0 := HU1.out 0 (by omega)
                    rw [HU0.out] at h0
                    rw [show 0 + 1 = 1 from rfl] at h0
                    rw [h0, show 1 + 1 = 2 from rfl, hO] at h1
                    rcases later_mem h1.symm with h | h
                    · exact stored_some h
                    · exact stored_some h
                  have HW0 := hid HWa.out.lt
                  refine R.mono ?_
                  clear R
                  rintro e w5 ⟨⟨hsok, rfl⟩, b5⟩
                  obtain ⟨v1, v2, v3, v4, v5, v6, us, v7, v8, v9⟩ := (HW0.out.keep b5).yes s hO
                  have kW5 := kW.keep b5
                  have B5 := hbel.trans (b5.mono hbel.size)
                  have hs5 := B5.size
                  have lW5 := kW5.lt
                  have hw5 := b5.size
                  have hpok : (Pgr.at_ d 0 q s).ok := ⟨hsok.nu, hsok.nu, by show (0 : Nat) ≤ _; omega, by show q ≤ 1023; omega, hsok.num, hsok.mt⟩
                  have hUL : (Pgr.at_ d 0 q s).usedL 1024 = LU us (q + 1) := used_eq s.nu us q (by omega) hNW.2 v9
                  have hPr : (Pgr.at_ d 0 q s).root = V.root := v1.symm
                  have hPn : (Pgr.at_ d 0 q s).num = V.num := v2.symm
                  have hPm : (Pgr.at_ d 0 q s).mt = s.mt := rfl
                  have hV0 : V.num ≠ 0 := by rw [v2]; exact hNW.1
                  obtain ⟨P, hP⟩ : ∃ z, Pgr.at_ d 0 q s = z := ⟨_, rfl⟩
                  rw [hP] at hpok hUL hPr hPn hPm ⊢
                  have HPf := hid (And.intro hUL (And.intro hPr (And.intro hPn hPm)))
                  obtain ⟨mt, hmt⟩ : ∃ z, s.mt = z := ⟨_, rfl⟩
                  rw [hmt] at v3
                  have HMT := hid hmt
                  clear hP hUL hPr hPn hPm b5 kW kd kx hbel x0 x1 x2 x3 x4 HYN lx lD lW HWa HW0 hNW hsok hmt v1 v2
                  have tz : ((V.num : Int) == 0) = false := by rw [beq_eq_false_iff_ne]; omega
                  have HV0 := hid hV0
                  clear hV0
                  go_wp2_with (first
                    | ((with_reducible refine is_alloc 37 ?_); refine wp_allocB (w := w5) _ arrPgr ?_; intro w6 k6 b6 s6; go_frame)
                    | ((with_reducible refine is_store 37 ?_); refine wp_storeP w5.heap.size _ P hpok k6 (by rw [Pgr.cs_len Pgr.zero_ok]) rfl rfl ?_; intro w7 k7 r7; go_frame; have kW7 := (kW5.keep b6).grown r7 (by simp; omega); have z2 : w7.cell? ⟨gW, 2, none⟩ = some (.int .u64 (V.num : Int)) := kW7.cell 2; have lW7 := kW7.lt)
                    | ((with_reducible refine is_load 37 ?_); refine wp_loadP w5.heap.size P hpok k7 rfl ?_; go_frame))
                  have B7 := (B5.trans (b6.mono B5.size)).grown r7 (B5.trans (b6.mono B5.size)).size (fun z hz => by cases hz; exact hs5)
                  have w3 := (v3.keep b6).grown r7 (fun g hg h => by cases hg; have := h.2; omega)
                  have w7u := (v7.keep b6).grown r7 (fun g hg h => by cases hg; have := h.2; omega)
                  clear v3 v7 b6 s6 k6 r7 kW5 B5 z2 lW7 lW5
                  obtain ⟨gP, hgP⟩ : ∃ z, w5.heap.size = z := ⟨_, rfl⟩
                  rw [hgP] at k7 ⊢
                  clear hgP
                  have R := root_any P w7 hpok
                  rw [HPf.out.2.1, HPf.out.2.2.1, HPf.out.2.2.2, HMT.out] at R
                  refine R.mono ?_
                  clear R
                  rintro e w8 ⟨gm, cm, rfl, hm, b8⟩
                  have k8 := k7.keep b8
                  have kW8 := kW7.keep b8
                  have B8 := B7.trans (b8.mono B7.size)
                  have m8 := w3.keep b8
                  have u8' := w7u.keep b8
                  clear b8 k7 kW7 B7 w3 w7u
                  obtain ⟨n1, hn1⟩ : ∃ z, q + 1 = z := ⟨_, rfl⟩
                  rw [hn1] at v4 v5 v8 u8'
                  obtain ⟨ub, uo, eA, hub, huc⟩ := u8'.1.2 (by omega)
                  have z4 : w8.cell? ⟨gW, 4, none⟩ = some (.slice V.u.A V.u.n V.u.c) := kW8.cell 4
                  rw [eA, v4] at z4
                  have lW8 := kW8.lt
                  have hs8 := B8.size
                  have hRL := u8'.1
                  rw [eA] at hRL
                  have HRL := hid hRL
                  have HN1 := hid hn1
                  have HV8 := hid v8
                  clear hRL huc u8' hn1 v4 v5 v6 v8 v9 eA
                  go_wp2_with fail
                  go_loopw [27, 166] (fun ov iv wr => ∃ j : Nat, j ≤ n1 ∧ iv = .int .i64 j ∧ wr.ownsRow w8.heap.size 3 1 ov (LU us j).length ((LU us j).map intV) ∧ Below w8.heap.size w8 wr) (fun _ iv _ => n1 - (intOf iv).toNat)
                  case atStart => exact ⟨0, by omega, rfl, World.ownsRow_nil _ _ _ _, Below.refl _ _⟩
                  case round =>
                    obtain ⟨j, hj, rfl, hown, hbel⟩ := hrel
                    have ej := IntWalk.i64_in ((j : Int) + 1) (by have := HN1.out; omega)
                    by_cases hlt : j < n1
                    · have tj : (j : Int) < (n1 : Int) := by omega
                      obtain ⟨bb, hbb⟩ : ∃ z, us[j]? = some z := ⟨_, List.getElem?_eq_getElem (by rw [HV8.out]; omega)⟩
                      have cj : wr.cell? ⟨ub, uo + j, none⟩ = some (.bool bb) := by
                        obtain ⟨b', o', e, _, hc⟩ := (HRL.out.below hbel).2 (by omega)
                        cases e
                        exact hc j (.bool bb) (by rw [List.getElem?_map, hbb]; rfl)
                      have hle := LU_le us j
                      have HSU := hid (LU_succ us j)
                      rw [hbb] at HSU
                      have hs5 := hbel.size
                      clear hbb
                      generalize LU us j = L at *
                      have hn1023 : n1 ≤ 1024 := by have := HN1.out; omega
                      cases bb with
                      | false =>
                        go_wp2_with fail
                        go_roundw
                        case measure => simp [intOf]; omega
                        case rel =>
                          refine ⟨j + 1, by omega, by go_num, ?_, hbel⟩
                          rw [HSU.out]
                          simpa using hown
                      | true =>
                        go_wp2_with (at_builtin; refine wp_appN rfl _ _ 48 rfl w8.heap.size 3 _ 1 8 intT.el u27 L.length (L.map intV) (hown.alloc _) rfl _ 1 1 [.int .i64 j] (RL.new _ _ _ _ 1 1 rfl) rfl (by intro v hv; rw [List.mem_singleton] at hv; subst hv; rfl) (by unfold maxLen; omega) (by omega) (by simp; omega) ?_; intro v6 w6 hown6 r6 a6; go_frame)
                        have ba : Below wr.heap.size wr (wr.alloc (.cells #[.int .i64 (j : Int)] 3)) := (Below.refl _ _).alloc (Nat.le_refl _) _
                        have hb6 := (hbel.trans (ba.mono hbel.size)).grown r6 (by simp; omega) (fun q hq => (hown.lt q hq).1)
                        go_roundw
                        case measure => simp [intOf]; omega
                        case rel =>
                          refine ⟨j + 1, by omega, by go_num, ?_, hb6⟩
                          rw [HSU.out]
                          simpa [intV] using hown6
                    · obtain rfl : j = n1 := by omega
                      have tj : ¬ (j : Int) < (j : Int) := by omega
                      obtain ⟨A8, c8, rfl, r8, _, _⟩ := own_form hown
                      have hle8 := LU_le us j
                      have kP := k8.keep hbel
                      have kW9 := kW8.keep hbel
                      have B9 := B8.trans (hbel.mono hs8)
                      have hm9 := RL.below hm hbel
                      have m9 := m8.keep hbel
                      clear hown k8 kW8 B8 hm m8 hbel z4 lW8 ej
                      go_wp2_with fail
                      refine (awake_any wr (HTb.out.keep B9)).mono ?_
                      rintro e wa ⟨rfl, ba⟩
                      have kWa := kW9.keep ba
                      have kPa := kP.keep ba
                      have Ba := B9.trans (ba.mono B9.size)
                      have hma : RB wa (some ⟨gm, 0, none⟩) mt.length mt := RL.below hm9 ba
                      have mma := (m9.keep ba).rb
                      have r8a := RL.below r8 ba
                      have z1 : wa.cell? ⟨gW, 1, none⟩ = some (.int .i64 (V.root : Int)) := kWa.cell 1
                      have z2 : wa.cell? ⟨gW, 2, none⟩ = some (.int .u64 (V.num : Int)) := kWa.cell 2
                      have z3 : wa.cell? ⟨gW, 3, none⟩ = some (.slice V.m.A V.m.n V.m.c) := kWa.cell 3
                      have hmn : V.m.n = mt.length := mma.len.symm
                      rw [hmn] at z3 mma
                      have lWa := kWa.lt
                      have lPa := kPa.lt
                      have y1 : ((V.root : Int) == (V.root : Int)) = true := beq_self_eq_true _
                      have y2 : ((V.num : Int) == (V.num : Int)) = true := beq_self_eq_true _
                      clear hmn kW9 kP B9 hm9 m9 r8 ba
                      go_wp2_with fail
                      refine (equal_any _ _ _ _ _ _ mt mt _ hma mma).mono ?_
                      rintro e wb ⟨rfl, rfl⟩
                      rw [beq_self_eq_true]
                      clear z1 z2 z3 y1 y2 lWa
                      have U := used_any P wa hpok
                      rw [HPf.out.1, HN1.out] at U
                      go_wp2_with ((with_reducible refine is_load 37 ?_); refine wp_loadPg gP P hpok kPa rfl rfl ?_; go_frame)
                      refine U.mono ?_
                      clear U
                      rintro e wc ⟨vU, rfl, ho, bc⟩
                      obtain ⟨A9, c9, rfl, r9, _, _⟩ := own_form ho
                      have r8c := RL.below r8a bc
                      have Bc := Ba.trans (bc.mono Ba.size)
                      go_wp2_with fail
                      refine (sleq_any A9 A8 (LU us j).length c9 c8 _ (LU us j) wc rfl r9 r8c (by have := HN1.out; omega)).mono ?_
                      rintro e wd ⟨rfl, bd⟩
                      go_wp2_with fail
                      go_ret
                      exact ⟨rfl, Bc.trans (bd.mono Bc.size)⟩
end Go.Proofs.YtanglofabkbllaaDoor
set_option maxRecDepth 100000
namespace Go.Proofs.YtanglofabkbllaaDoor
open Go.ChangeShapes Go.WideShapes Go.ChangeAt Go.RowKit
section
variable {H : Type} {enc : TypeId × Value → H}
theorem cellC : Tryd.prog.cellsOf 64 = 1 ∧ Tryd.prog.cellsOf 75 = 2 := ⟨by kernel_rfl, by kernel_rfl⟩
theorem ch_el (W : World) {base : Nat} {sp : Nat → Bool} {held : Bool} (n : Nat) (cs : List Value) (y : DataW H × List MemPlace) (hl : cs.length = 2)
    (h : DataW.trod enc Tryd.prog W base sp held n 75 cs = some y) : ∃ x : Nat × Nat, cs = chCs x ∧ (x.1 < 65536 ∧ x.2 < 65536) := by
  obtain ⟨c1, _⟩ := cellC
  match cs, hl with
  | [q0, q1], _ =>
    obtain ⟨xs, m, _, _, _, hlen, hel⟩ := DataW.trod_array Tryd.underlying75 h
    rw [c1] at hel
    have e0 := hel 0 (by omega)
    have e1 := hel 1 (by omega)
    match xs, hlen with
    | [y0, y1], _ =>
      obtain ⟨x0, f0, _, w0⟩ := DataW.trod_int Tryd.underlying64 (show DataW.trod enc Tryd.prog W base sp held m 64 [q0] = some y0 by simpa using e0)
      obtain ⟨x1, f1, _, w1⟩ := DataW.trod_int Tryd.underlying64 (show DataW.trod enc Tryd.prog W base sp held m 64 [q1] = some y1 by simpa using e1)
      obtain ⟨a, rfl, ha⟩ := u16_lim w0
      obtain ⟨b, rfl, hb⟩ := u16_lim w1
      simp only [List.cons.injEq, and_true] at f0 f1
      subst f0 f1
      exact ⟨(a, b), rfl, ha, hb⟩
theorem open_changes {W : World} {r : Reach} {b0 base : Nat} {sp : Nat → Bool} {held : Bool} {v : Value} {d : DataW H} {p : List MemPlace}
    (hv : Value.okWide Tryd.prog W r b0 74 v) (h : DataW.Trod enc Tryd.prog W base sp held 74 v d p) :
    ∃ (A : Option Addr) (n c : Nat) (X : List (Nat × Nat)), v = .slice A n c ∧ X.length = n ∧ RL W 2 A n (X.flatMap chCs) ∧ (∀ x ∈ X, x.1 < 65536 ∧ x.2 < 65536) ∧ n ≤ c ∧ c ≤ 9223372036854775807 :=
  open_list 2 (by omega) chCs (fun _ => rfl) (fun x => x.1 < 65536 ∧ x.2 < 65536) Tryd.underlying74 cellC.2 (ch_el W) hv h
end
end Go.Proofs.YtanglofabkbllaaDoor

