/- The walk of DiskKeeps, every argument. Conditions: the acts read. -/
import Derived.Test.YthpalmncfcahkaaPlayed
import Derived.Test.YthpalmncfcahkaaEqK
import Derived.Test.YthpalmncfcahkaaEqual
import Derived.Test.YthpalmncfcahkaaPend
import Derived.Test.YthpalmncfcahkaaAwake
import Derived.Test.YthpalmncfcahkaaHead
import Derived.Maps.Own
import Derived.Maps.OwnOps
import Derived.Maps.Views
set_option linter.unusedSimpArgs false
set_option linter.unusedVariables false
namespace Go.Proofs.Ythpalmncfcahkaa
open Go.RowKit

theorem kp_not (ch : Nat) : ∀ (l : List (Nat × List UInt8)) (c : Nat) (f : Secs) (i : Nat), (∀ x ∈ l, x.1 ≠ i) → crun ch c f l i = f i
  | [], _, _, _, _ => rfl
  | x :: l, c, f, i, h => by
    rw [crun, kp_not ch l _ _ i fun y hy => h y (List.mem_cons_of_mem _ hy)]
    have hne : i ≠ x.1 := fun e => h x (List.mem_cons_self ..) e.symm
    unfold tear
    split
    · unfold upd; rw [if_neg hne]
    · split
      · unfold upd; rw [if_neg hne]
      · rfl
theorem kp_zero : ∀ (l : List (Nat × List UInt8)) (c : Nat) (f : Secs), crun 0 c f l = f
  | [], _, _ => rfl
  | x :: l, c, f => by
    have e : digit 0 (c % 40) = 0 := by unfold digit; simp
    rw [crun, kp_zero l, e]
    rfl
def allOnes : Nat := 6078832729528464400
theorem kp_ones : ∀ (l : List (Nat × List UInt8)) (c : Nat) (f : Secs), crun allOnes c f l = l.foldl (fun f x => upd f x.1 x.2) f
  | [], _, _ => rfl
  | x :: l, c, f => by
    have e : digit allOnes (c % 40) = 1 := by
      have : ∀ j : Fin 40, digit allOnes j.1 = 1 := by decide
      exact this ⟨c % 40, Nat.mod_lt _ (by omega)⟩
    rw [crun, kp_ones l, e, List.foldl_cons]
    rfl
theorem kp1 {D E : Dk} (hn : D.n = E.n) (hS : D.S = E.S) (hE : E.W = []) : (D.crash 0).same E := by
  refine ⟨hn, by rw [hE]; rfl, fun i _ => ?_⟩
  show crun 0 0 D.S _ i = _
  rw [kp_zero, hS]
theorem kp2 (D : Dk) : (D.crash allOnes).same D.sync := by
  refine ⟨rfl, rfl, fun i _ => ?_⟩
  show crun allOnes 0 D.S _ i = D.cur i
  rw [kp_ones]
  unfold Dk.cur
  rw [List.foldl_reverse]
theorem kp3 (D : Dk) (ch : Nat) : ((D.crash ch).crash ch).same (D.crash ch) := ⟨rfl, rfl, fun _ _ => rfl⟩
theorem kp4 {D : Dk} {ch i : Nat} (h : ∀ x ∈ D.W, x.1 ≠ i) : (D.crash ch).cur i = D.S i := kp_not ch _ 0 D.S i fun x hx => h x (List.mem_reverse.1 hx)
/-- 1, 4, 13, .. -/
def ones : Nat → Nat
  | 0 => 0
  | k + 1 => 3 * ones k + 1
theorem ones_le : ∀ k, k ≤ 40 → ones k ≤ 6078832729528464400 := by
  have h1 : ∀ k, 2 * ones k + 1 = 3 ^ k := by
    intro k
    induction k with
    | zero => rfl
    | succ k ih => rw [ones, Nat.pow_succ]; omega
  intro k hk
  have := h1 k
  have h2 : 3 ^ k ≤ 3 ^ 40 := Nat.pow_le_pow_right (by omega) hk
  have h3 : (3 : Nat) ^ 40 = 12157665459056928801 := by decide
  omega
theorem ones_all : ones 40 = allOnes := by decide
theorem doK_low {D : Dk} {x : Ac} (h : x.act % 8 < 5) : doK D x = D ∨ (0 ≤ x.at_ ∧ doK D x = D.write x.at_.toNat (sect x.a x.b)) := by
  unfold doK
  rw [if_neg (by omega), if_neg (by omega), if_neg (by omega)]
  split
  · rename_i hh; exact .inr ⟨hh.1, rfl⟩
  · exact .inl rfl
theorem bool_el {H : Type} {P : Program} {e : TypeId} (he : P.underlying e = some .bool) {v : Value} {z : DataW H × List MemPlace} (h : plainElem P e v = some z) : ∃ b, v = .bool b ∧ z = (.lit (.bool b), []) := by
  unfold plainElem at h
  rw [he] at h
  cases v <;> simp at h
  exact ⟨_, rfl, h.symm⟩

theorem kArrAct : ArrT Try.prog 53 (⟨0, 0, 0, 0, 0⟩ : Ac).cs := (by kernel_rfl : (Try.prog.info? 53).map (fun i => (i.zero, i.size)) = some (some (.agg (⟨0, 0, 0, 0, 0⟩ : Ac).cs.toArray), 5))
theorem kActN : (Try.prog.info? 53).map (·.size) = some 5 := by kernel_rfl
theorem kAcOne (x : Ac) : ∀ v ∈ x.cs, v.oneCell' = true := by
  intro v hv
  simp only [Ac.cs, List.mem_cons, List.not_mem_nil, or_false] at hv
  rcases hv with rfl | rfl | rfl | rfl | rfl <;> rfl
theorem om_keep {P : Program} {k : TypeId} {R : Value → Option (DataW Unit × List MemPlace)} {w w' : World} {b n : Nat} {D : DataW Unit} (h : w.ownsMap P k R b n D) (hb : Below w.heap.size w w') : w'.ownsMap P k R b n D := by
  have hlt := h.lt
  obtain ⟨es, clock, hb', F, hs, hD⟩ := h
  exact ⟨es, clock, (hb.block b hlt).trans hb', F, hs, hD⟩
/-- the map that the call made -/
def Om (w : World) (b n : Nat) (D : DataW Unit) : Prop := w.ownsMap Try.prog 3 (plainElem Try.prog 4) b n D
theorem Om.keep {w w' : World} {b n : Nat} {D : DataW Unit} (h : Om w b n D) (hb : Below w.heap.size w w') : Om w' b n D := om_keep h hb
theorem Om.grown {w w' : World} {b n g : Nat} {D : DataW Unit} (h : Om w b n D) (hg : w.grownBy w' (some g)) (hne : b ≠ g) : Om w' b n D := World.ownsMap.kept h hg (by simpa using hne)
theorem Om.lt {w : World} {b n : Nat} {D : DataW Unit} (h : Om w b n D) : b < w.heap.size := World.ownsMap.lt h
theorem Om.kept {w w' : World} {b n : Nat} {D : DataW Unit} (h : Om w b n D) (hr : w.grownBy w' (some b)) : Kept w w' := by
  refine ⟨fun g t cs _ hb => hb.grown hr ?_⟩
  intro e
  cases e
  obtain ⟨es, clock, hb', _⟩ := h
  unfold Blk at hb
  rw [hb'] at hb
  cases hb
/-- the keys that hold true -/
def Trues (D : DataW Unit) (S : Int → Prop) : Prop := Maps.IsMap D ∧ ∀ i, S i → D.atKey (.int .i64 i) (.lit (.bool false)) = .lit (.bool true)

set_option maxRecDepth 100000 in
set_option maxHeartbeats 8000000 in
theorem keeps_go (q : Nat) (A : Option Addr) (m c : Nat) (X : List Ac) (ch : Nat) (w : World) (h1 : 1 ≤ q) (h2 : q ≤ 12) (hm : m ≤ 60) (hX : X.length = m) (hr : RL w 5 A m (X.flatMap Ac.cs)) (hok : ∀ x ∈ X, x.ok) (hmc : m ≤ c) (hc : c ≤ 9223372036854775807) (hch : ch < 18446744073709551616) :
    Calls Try.prog 6 #[.int .i64 q, .slice A m c, .int .u64 ch] w fun e w' => e = .returned (.bool true) ∧ Below w.heap.size w w' := by
  have HPl := hid (fun w' (hb : Below w.heap.size w w') => played_any q A m c X w' h1 h2 hm hX (hr.below hb) hok hmc hc)
  have HOK := hid hok
  have HX := hid hX
  have HR := hid hr
  have HPn : Hid ((played q X).n = q) := hid (played_n q X (Dk.new q))
  clear hok hX hr
  obtain ⟨DP, hDP⟩ : ∃ z, played q X = z := ⟨_, rfl⟩
  rw [hDP] at HPl HPn
  clear hDP
  go_enter Try.func6, Try.ntmps6
  go_wp2_with fail
  refine (few_yes q A m c w h1 h2 hm).mono ?_
  rintro e w' ⟨rfl, rfl⟩
  go_wp2_with fail
  go_loopw [7, 24] (fun a i wr => ∃ k : Nat, k ≤ 40 ∧ i = .int .i64 k ∧ a = .int .u64 (ones k) ∧ w = wr) (fun _ i _ => 40 - (intOf i).toNat)
  case atStart => exact ⟨0, by omega, rfl, rfl, rfl⟩
  case round =>
    obtain ⟨k, hk, rfl, rfl, rfl⟩ := hrel
    by_cases hlt : k < 40
    · have ho := ones_le k hk
      have ho1 := ones_le (k + 1) (by omega)
      have e1 : IntKind.u64.wrap (3 * ((ones k : Nat) : Int)) = 3 * ((ones k : Nat) : Int) := by rw [IntKind.wrap_u64]; omega
      have e2 : IntKind.u64.wrap (3 * ((ones k : Nat) : Int) + 1) = ((ones (k + 1) : Nat) : Int) := by
        rw [IntKind.wrap_u64]
        have : ones (k + 1) = 3 * ones k + 1 := rfl
        omega
      obtain ⟨o2, ho2⟩ : ∃ z, ones (k + 1) = z := ⟨_, rfl⟩
      rw [ho2] at e2 ho1
      have HO2 := hid ho2
      clear ho2
      generalize ones k = o1 at *
      go_wp2_with fail
      go_roundw
      case measure => simp [intOf]; omega
      case rel => exact ⟨k + 1, by omega, by go_num, by rw [HO2.out], trivial⟩
    · obtain rfl : k = 40 := by omega
      obtain ⟨aw, haw⟩ : ∃ z, ones 40 = z := ⟨_, rfl⟩
      rw [haw]
      have HAW := hid haw
      clear haw
      go_wp2_with fail
      refine (HPl.out _ (Below.refl _ _)).mono ?_
      rintro e w1 ⟨dp, rfl, hdp, b1⟩
      go_wp2_with fail
      have R := sync_any dp w1
      refine R.mono ?_
      clear R
      rintro e w2 ⟨rfl, b2⟩
      have B := b1.trans (b2.mono b1.size)
      have hds := (hdp.keep b2).sync
      have HDs : Hid (DP.sync.n = q ∧ DP.sync.W = []) := hid ⟨HPn.out, rfl⟩
      generalize DP.sync = DS at hds HDs
      generalize dp.sync = ds at hds ⊢
      clear hdp b1 b2
      simp only [DV.v]
      have HMK := fun (wx : World) => run_makeMap (P := Try.prog) 57 wx
      go_wp2_with (first
        | ((with_reducible refine is_alloc 25 ?_); refine wp_allocB (w := w2) _ arrDisk ?_; intro w3 k3 b3 s3; go_frame)
        | ((with_reducible refine is_alloc 25 ?_); refine wp_allocN (w := w4.alloc (.map #[] 0)) (w4.heap.size + 1) (by simp) _ arrDisk ?_; intro w5 k5 b5 s5; go_frame)
        | ((with_reducible refine is_store 25 ?_); refine wp_storeB w2.heap.size _ _ ds.cs k3 diskN rfl (dv_one _) rfl rfl ?_; intro w4 k4 r4; go_frame; obtain ⟨x0, x1, x2, x3, x4⟩ := k4.c5; have l4 := k4.lt)
        | ((with_reducible refine is_store 25 ?_); refine wp_storeB (w4.heap.size + 1) _ _ ds.cs k5 diskN rfl (dv_one _) rfl rfl ?_; intro w6 k6 r6; go_frame))
      clear x0 x1 x2 x3 x4 l4 HMK
      have hmp := World.ownsMap_made (H := Unit) w4 Try.prog 3 (plainElem Try.prog 4)
      have bm : Below w4.heap.size w4 (w4.alloc (.map #[] 0)) := (Below.refl _ _).alloc (Nat.le_refl _) _
      have b56 : Below (w4.alloc (.map #[] 0)).heap.size (w4.alloc (.map #[] 0)) w5 := by
        have : (w4.alloc (.map #[] 0)).heap.size = w4.heap.size + 1 := by simp
        rw [this]; exact b5
      have om4 : Om (w4.alloc (.map #[] 0)) w4.heap.size 0 (.map []) := hmp
      have om6 := (om4.keep b56).grown r6 (by omega)
      have kS := ((k4.keep bm).keep b56).grown r6 (by have := k4.lt; simp; omega)
      have hsz : (w4.alloc (.map #[] 0)).heap.size = w4.heap.size + 1 := by simp
      have K6 := (((Kept.below b3).trans (Kept.grown r4 k3 notDk)).trans (Kept.below bm)).trans ((Kept.below b56).trans (Kept.grown r6 k5 notDk))
      have hds6 := hds.kept K6
      have c4 := ((B.trans (b3.mono B.size)).grown r4 (by have := B.size; have := b3.size; omega) (fun z hz => by cases hz; exact B.size))
      have c6 := (c4.trans (bm.mono c4.size)).trans (b56.mono (by rw [hsz]; have := c4.size; omega))
      have C6 := c6.grown r6 c6.size (fun z hz => by cases hz; have := c4.size; omega)
      have hG : w.heap.size ≤ w2.heap.size ∧ w2.heap.size < w4.heap.size := ⟨B.size, k4.lt⟩
      clear hmp om4 bm b56 hsz K6 c4 c6 b3 s3 k3 k4 r4 b5 s5 k5 r6 B hds
      generalize w2.heap.size = GS at *
      generalize w4.heap.size = MB at *
      obtain ⟨GD, hGD⟩ : ∃ z, MB + 1 = z := ⟨_, rfl⟩
      rw [hGD] at k6 ⊢
      have hN : w.heap.size ≤ GD ∧ w.heap.size ≤ MB ∧ ¬ GS = GD ∧ ¬ GD = GS ∧ ¬ MB = GD ∧ ¬ MB = GS := ⟨by omega, by omega, by omega, by omega, by omega, by omega⟩
      have HDs0 : Hid (∀ i : Int, (∃ x ∈ DS.W, (x.1 : Int) = i) → False) := hid (by rw [HDs.out.2]; rintro i ⟨x, hx, _⟩; exact absurd hx (List.not_mem_nil))
      clear hGD w2 w4 w3 w5
      go_loopw [38] (fun i wr => ∃ (k : Nat) (d : DV) (D : Dk) (T : DataW Unit), k ≤ m ∧ i = .int .i64 k ∧ Blk wr GS 25 ds.cs ∧ DkV wr ds DS ∧ Bx wr GD d D ∧ Hid (D.n = q ∧ D.W.length ≤ k ∧ D.S = DS.S) ∧ Om wr MB k T ∧ Hid (Trues T (fun i => ∃ x ∈ D.W, (x.1 : Int) = i)) ∧ Below w.heap.size w wr) (fun i _ => m - (intOf i).toNat)
      case atStart => exact ⟨0, ds, DS, .map [], Nat.zero_le _, rfl, kS, hds6, ⟨k6, hds6⟩, hid ⟨HDs.out.1, by rw [HDs.out.2]; exact Nat.le_refl _, rfl⟩, om6, hid ⟨Maps.isMap_empty, fun i h => (HDs0.out i h).elim⟩, C6⟩
      case round =>
        obtain ⟨k, d, D, T, hk, rfl, kS', hds', kd, HD, om, HT, hbel⟩ := hrel
        clear kS hds6 k6 om6 C6
        by_cases hlt : k < m
        · obtain ⟨b, off, x, rfl, hbb, hx, hcell⟩ := (HR.out.below hbel).el (f := Ac.cs) (fun _ => rfl) hlt (by omega)
          have C0 := hcell 0 _ rfl
          have C1 := hcell 1 _ rfl
          have C2 := hcell 2 _ rfl
          have C3 := hcell 3 _ rfl
          have C4 := hcell 4 _ rfl
          rw [Nat.add_zero] at C0
          have hxok := HOK.out x (List.mem_of_getElem? hx)
          clear hcell hx
          have hat0 := hxok.l
          have hat1 := hxok.h
          obtain ⟨md, hmd⟩ : ∃ z, x.act % 8 = z := ⟨_, rfl⟩
          have em1 : (x.act : Int).tmod 8 = (md : Int) := by rw [Int.tmod_eq_emod_of_nonneg (by omega)]; omega
          have em2 : (x.act : Int) % 8 = (md : Int) := by omega
          have HMD := hid hmd
          clear hmd
          have t2 : (k : Int) < (m : Int) := by omega
          have hGw := hbel.size
          have lS := kS'.lt
          have lD := kd.k.lt
          have lM := om.lt
          by_cases h5 : md < 5
          · have t3 : decide ((md : Int) < 5) = true := by simp; omega
            go_wp2_with (first
              | ((with_reducible refine is_alloc 53 ?_); refine wp_allocB (w := wr) _ kArrAct ?_; intro w5 k5 b5 s5; go_frame)
              | ((with_reducible refine is_store 53 ?_); refine wp_storeB wr.heap.size _ _ x.cs k5 kActN rfl (kAcOne _) rfl rfl ?_; intro w6 k6 r6; go_frame; obtain ⟨a0, a1, a2, a3, a4⟩ := k6.c5; have l6 := k6.lt))
            have ba : Below wr.heap.size wr w6 := b5.grown r6 b5.size (fun z hz => by cases hz; exact Nat.le_refl _)
            have kd6 := kd.keep ba
            have kS6 := kS'.keep ba
            have hds6 := hds'.keep ba
            have om6 := om.keep ba
            have C6 := hbel.trans (ba.mono hbel.size)
            have n6 : ¬ GD = wr.heap.size ∧ ¬ GS = wr.heap.size ∧ ¬ MB = wr.heap.size := ⟨by omega, by omega, by omega⟩
            obtain ⟨DN, hDN⟩ : ∃ z, doK D x = z := ⟨_, rfl⟩
            have HDN := hid hDN
            have HDO : Hid (∀ w' x1, Below w6.heap.size w6 w' → RefV (fun _ => True) w' x1 (Dk.new q) → Calls Try.prog 21 #[d.v, x1.v, x.v] w' fun e w'' => ∃ (d' : DV) (x' : Rv), e = .returned (.tuple #[d'.v, x'.v, .bool true]) ∧ DkV w'' d' DN ∧ Below w'.heap.size w' w'') := hid fun w' x1 hb hr1 =>
              (do_any (fun _ => True) d x1 x D (Dk.new q) w' (fun _ _ => trivial) (kd6.d.keep hb) hr1 (HD.out.1.symm) hxok (by have := HD.out.2.1; omega) (by simp [Dk.new])).mono fun e w'' ⟨d', x', h1, h2, _, h3⟩ => ⟨d', x', h1, by rw [← hDN]; exact h2, h3⟩
            have hat2 : x.at_ ≤ 9223372036854775807 := by omega
            clear hDN a0 a1 a2 a3 a4 l6 b5 s5 k5 r6 ba C0 C1 C2 C3 C4 kS' hds' kd om lS lD lM hbb
            generalize wr.heap.size = bA at *
            have lD := kd6.k.lt
            have lA := k6.lt
            refine wp_region_headF 118 9 [47, 48, 49, 50, 51, 46, 52, 53, 54] [7, 8] ((fun kq => ([fun u w' => u = d.v, fun u w' => u = .int .i64 q, fun u w' => ∃ (x1 : Rv), u = x1.v ∧ RefV (fun _ => True) w' x1 (Dk.new q), fun u w' => u = x.v, fun u w' => ∃ (dx : DV), ∃ (x2 : Rv), u = .tuple #[dx.v, x2.v, .bool true] ∧ DkV w' dx DN, fun u w' => ∃ (dx : DV), ∃ (x2 : Rv), u = .tuple #[dx.v, x2.v, .bool true] ∧ DkV w' dx DN, fun u w' => ∃ (dx : DV), ∃ (x2 : Rv), u = dx.v ∧ DkV w' dx DN, fun u w' => ∃ (dx : DV), ∃ (x2 : Rv), u = x2.v ∧ DkV w' dx DN, fun u w' => u = .bool true] : List (Value → World → Prop)).getD kq (fun _ _ => True))) (by kernel_rfl) rfl (by kernel_rfl) ?grow ?step ?tail
            case step =>
              simp only [List.take_succ_cons, List.take_zero]
              refine HSteps.cons ?_ ?_
              · intro f w' hb hU
                obtain ⟨x0', x1', x2', x3', x4'⟩ := (kd6.k.keep hb).c5
                simp only [putAll, List.foldl_cons, List.foldl_nil]
                go_frame
                go_wp2_with fail
                exact ⟨rfl, _, rfl, Below.refl _ _, rfl⟩
              refine HSteps.cons ?_ ?_
              · intro f w' hb hU
                simp only [putAll, List.foldl_cons, List.foldl_nil]
                go_frame
                go_wp2_with fail
                exact ⟨rfl, _, rfl, Below.refl _ _, rfl⟩
              refine HSteps.cons ?_ ?_
              · intro f w' hb hU
                obtain u1 : f 48 = .int .i64 q := hU.get ⟨1, .data⟩ (by simp) rfl
                simp only [putAll, List.foldl_cons, List.foldl_nil]
                go_frame
                try simp only [u1]
                go_wp2_with fail
                refine (refNew_any q w' (by omega) (fun _ => True) (fun _ _ => trivial)).mono ?_
                rintro e w3 ⟨x1, rfl, hx1, b3⟩
                go_wp2_with fail
                exact ⟨rfl, _, rfl, b3, x1, rfl, hx1⟩
              refine HSteps.cons ?_ ?_
              · intro f w' hb hU
                obtain ⟨x0', x1', x2', x3', x4'⟩ := (k6.keep hb).c5
                simp only [putAll, List.foldl_cons, List.foldl_nil]
                go_frame
                go_wp2_with fail
                exact ⟨rfl, _, rfl, Below.refl _ _, rfl⟩
              refine HSteps.cons ?_ ?_
              · intro f w' hb hU
                obtain u0 : f 47 = d.v := hU.get ⟨0, .data⟩ (by simp) rfl
                obtain ⟨x1, u2, v2_0⟩ : ∃ (x1 : Rv), f 49 = x1.v ∧ RefV (fun _ => True) w' x1 (Dk.new q) := hU.get ⟨2, .data⟩ (by simp) rfl
                obtain u3 : f 50 = x.v := hU.get ⟨3, .data⟩ (by simp) rfl
                have R2 := HDO.out w' x1 hb v2_0
                simp only [putAll, List.foldl_cons, List.foldl_nil]
                go_frame
                try simp only [u0, u2, u3]
                go_wp2_with fail
                refine (R2).mono ?_
                rintro e w3 ⟨dx, x2, rfl, hdx, b3⟩
                go_wp2_with fail
                exact ⟨rfl, _, rfl, b3, dx, x2, rfl, hdx⟩
              refine HSteps.cons ?_ ?_
              · intro f w' hb hU
                obtain ⟨dx, x2, u4, v4_0⟩ : ∃ (dx : DV), ∃ (x2 : Rv), f 51 = .tuple #[dx.v, x2.v, .bool true] ∧ DkV w' dx DN := hU.get ⟨4, .data⟩ (by simp) rfl
                simp only [putAll, List.foldl_cons, List.foldl_nil]
                go_frame
                try simp only [u4]
                go_wp2_with fail
                exact ⟨rfl, _, rfl, Below.refl _ _, dx, x2, rfl, v4_0⟩
              refine HSteps.cons ?_ ?_
              · intro f w' hb hU
                obtain ⟨dx, x2, u5, v5_0⟩ : ∃ (dx : DV), ∃ (x2 : Rv), f 46 = .tuple #[dx.v, x2.v, .bool true] ∧ DkV w' dx DN := hU.get ⟨5, .data⟩ (by simp) rfl
                simp only [putAll, List.foldl_cons, List.foldl_nil]
                go_frame
                try simp only [u5]
                go_wp2_with fail
                exact ⟨rfl, _, rfl, Below.refl _ _, dx, x2, rfl, v5_0⟩
              refine HSteps.cons ?_ ?_
              · intro f w' hb hU
                obtain ⟨dx, x2, u5, v5_0⟩ : ∃ (dx : DV), ∃ (x2 : Rv), f 46 = .tuple #[dx.v, x2.v, .bool true] ∧ DkV w' dx DN := hU.get ⟨5, .data⟩ (by simp) rfl
                simp only [putAll, List.foldl_cons, List.foldl_nil]
                go_frame
                try simp only [u5]
                go_wp2_with fail
                exact ⟨rfl, _, rfl, Below.refl _ _, dx, x2, rfl, v5_0⟩
              refine HSteps.cons ?_ ?_
              · intro f w' hb hU
                obtain ⟨dx, x2, u5, v5_0⟩ : ∃ (dx : DV), ∃ (x2 : Rv), f 46 = .tuple #[dx.v, x2.v, .bool true] ∧ DkV w' dx DN := hU.get ⟨5, .data⟩ (by simp) rfl
                simp only [putAll, List.foldl_cons, List.foldl_nil]
                go_frame
                try simp only [u5]
                go_wp2_with fail
                exact ⟨rfl, _, rfl, Below.refl _ _, rfl⟩
              exact HSteps.nil
            case grow =>
              intro kq u wa wb hb hu
              rcases kq with _ | _ | _ | _ | _ | _ | _ | _ | _ | kq
              · exact hu
              · exact hu
              · obtain ⟨x1, ue, uf0⟩ := hu
                exact ⟨x1, ue, uf0.keep hb⟩
              · exact hu
              · obtain ⟨dx, x2, ue, uf0⟩ := hu
                exact ⟨dx, x2, ue, uf0.keep hb⟩
              · obtain ⟨dx, x2, ue, uf0⟩ := hu
                exact ⟨dx, x2, ue, uf0.keep hb⟩
              · obtain ⟨dx, x2, ue, uf0⟩ := hu
                exact ⟨dx, x2, ue, uf0.keep hb⟩
              · obtain ⟨dx, x2, ue, uf0⟩ := hu
                exact ⟨dx, x2, ue, uf0.keep hb⟩
              · exact hu
              · trivial
            case tail =>
              intro f w7 hb7 hU
              obtain ⟨dx, x2, u6, v6_0⟩ : ∃ (dx : DV), ∃ (x2 : Rv), f 52 = dx.v ∧ DkV w7 dx DN := hU.get 6 (by decide)
              simp only [List.drop_succ_cons, List.drop_zero, putAll, List.foldl_cons, List.foldl_nil]
              go_frame
              simp only [u6]
              clear u6
              clear hU
              replace kd6 := kd6.keep hb7
              replace kS6 := kS6.keep hb7
              replace hds6 := hds6.keep hb7
              replace om6 := om6.keep hb7
              replace k6 := k6.keep hb7
              replace C6 := C6.trans (hb7.mono C6.size)
              clear hb7 HDO
              go_wp2_with ((with_reducible refine is_store 25 ?_); refine wp_storeB GD _ _ dx.cs kd6.k diskN rfl (dv_one _) rfl rfl ?_; intro w8 k8 r8; go_frame)
              refine noPanic_ok ?_
              have kd8 : Bx w8 GD dx DN := kd6.put k8 r8 v6_0
              have kS8 := kS6.grown r8 (by simp; omega)
              have hds8 := hds6.kept (Kept.grown r8 kd6.k notDk)
              have om8 := om6.grown r8 (by omega)
              have k68 := k6.grown r8 (by simp; omega)
              have C8 := C6.grown r8 C6.size (fun z hz => by cases hz; omega)
              obtain ⟨a0, a1, a2, a3, a4⟩ := k68.c5
              have l6 := k68.lt
              have ew := IntWalk.i64_in x.at_ (by omega)
              clear kd6 kS6 hds6 om6 k6 C6 r8 k8 v6_0 lD lA
              have hkey : keyOf Try.prog 3 (.int .i64 x.at_) = some (.int .i64 x.at_) := by
                have hwf : (Lit.int .i64 x.at_).wf = true := by
                  simp [Lit.wf, IntKind.min, IntKind.max, IntKind.signed, IntKind.bits]
                  omega
                simp [keyOf, mapKey, Try.underlying3, hwf]
              go_wp2_with (at_mapUpdate; go_loud (refine wpList_mapUpdate_own _ rfl _ _ _ 57 rfl 3 4 (Maps.int_keyed Try.underlying3) Try.underlying57 (plainElem Try.prog 4) MB k T rfl om8 (by unfold maxLen; omega) (.int .i64 x.at_) (.bool true) (.int .i64 x.at_) rfl rfl hkey (.lit (.bool true)) [] (plainElem_bool Try.underlying4 true) ?_); intro w9 om9 r9; go_frame)
              have K9 := Om.kept om8 r9
              have HD' : Hid (DN.n = q ∧ DN.W.length ≤ k + 1 ∧ DN.S = DS.S) := by
                have hl := doK_low (D := D) (x := x) (by rw [HMD.out]; exact h5)
                rw [HDN.out] at hl
                obtain ⟨h1', h2', h3'⟩ := HD.out
                rcases hl with e | ⟨_, e⟩
                · rw [e]; exact hid ⟨h1', by omega, h3'⟩
                · rw [e]; exact hid ⟨h1', by show D.W.length + 1 ≤ _; omega, h3'⟩
              have HT' : Hid (Trues (T.put (.int .i64 x.at_) (.lit (.bool true))) (fun i => ∃ y ∈ DN.W, (y.1 : Int) = i)) := by
                have hl := doK_low (D := D) (x := x) (by rw [HMD.out]; exact h5)
                rw [HDN.out] at hl
                obtain ⟨hm', ht⟩ := HT.out
                refine hid ⟨hm'.put _ _, fun i hi => ?_⟩
                by_cases he : i = x.at_
                · subst he
                  exact Maps.atKey_put_same hm' ((Maps.int_keyed (P := Try.prog) Try.underlying3).key hkey) _ _
                · rw [Maps.atKey_put_other (by intro e; cases e; exact he rfl)]
                  refine ht i ?_
                  rcases hl with e | ⟨h0, e⟩
                  · rwa [e] at hi
                  · rw [e] at hi
                    obtain ⟨y, hy, hyi⟩ := hi
                    rcases List.mem_cons.1 hy with rfl | hy
                    · exact absurd hyi.symm (by show ¬ i = ((x.at_.toNat : Nat) : Int); omega)
                    · exact ⟨y, hy, hyi⟩
              exact ⟨⟨k + 1, dx, DN, _, by omega, by go_num, kS8.grown r9 (by simp; omega), hds8.kept K9, ⟨kd8.k.grown r9 (by simp; omega), kd8.d.kept K9⟩, HD', om9, HT', C8.grown r9 C8.size (fun z hz => by cases hz; omega)⟩, by simp [intOf]; omega⟩
          · have t3 : decide ((md : Int) < 5) = false := by simp; omega
            go_wp2_with (first
              | ((with_reducible refine is_alloc 53 ?_); refine wp_allocB (w := wr) _ kArrAct ?_; intro w5 k5 b5 s5; go_frame)
              | ((with_reducible refine is_store 53 ?_); refine wp_storeB wr.heap.size _ _ x.cs k5 kActN rfl (kAcOne _) rfl rfl ?_; intro w6 k6 r6; go_frame; obtain ⟨a0, a1, a2, a3, a4⟩ := k6.c5; have l6 := k6.lt))
            have ba : Below wr.heap.size wr w6 := b5.grown r6 b5.size (fun z hz => by cases hz; exact Nat.le_refl _)
            exact ⟨⟨k + 1, d, D, T, by omega, by go_num, kS'.keep ba, hds'.keep ba, kd.keep ba, hid ⟨HD.out.1, by have := HD.out.2.1; omega, HD.out.2.2⟩, World.ownsMap.mono (om.keep ba) (by omega), HT, hbel.trans (ba.mono hbel.size)⟩, by simp [intOf]; omega⟩
        · obtain rfl : k = m := by omega
          obtain ⟨hDn, hDW, hDS⟩ := HD.out
          obtain ⟨x0, x1, x2, x3, x4⟩ := kd.k.c5
          have lD := kd.k.lt
          go_wp2_with fail
          have R := crash_any d D ch wr kd.d (by omega) hch
          dsimp only [DV.v] at R
          refine R.mono ?_
          clear R
          rintro e w5 ⟨dc, rfl, hdc, b5⟩
          have HDD := hid hDn
          have HDD2 := hid hDS
          replace kd := kd.keep b5
          replace kS' := kS'.keep b5
          replace hds' := hds'.keep b5
          replace om := om.keep b5
          replace hbel := hbel.trans (b5.mono hbel.size)
          have lS := kS'.lt
          have lM := om.lt
          have hG5 := hbel.size
          clear b5 x0 x1 x2 x3 x4 lD hDn hDS
          go_wp2_with (first
            | ((with_reducible refine is_alloc 25 ?_); refine wp_allocB (w := w5) _ arrDisk ?_; intro w6 k6 b6 s6; go_frame)
            | ((with_reducible refine is_store 25 ?_); refine wp_storeB w5.heap.size _ _ dc.cs k6 diskN rfl (dv_one _) rfl rfl ?_; intro w7 k7 r7; go_frame))
          have K7 := (Kept.below b6).trans (Kept.grown r7 k6 notDk)
          have lD := kd.k.lt
          have kd7 : Bx w7 GD d D := ⟨(kd.k.keep b6).grown r7 (by simp; omega), kd.d.kept K7⟩
          have kS7 := (kS'.keep b6).grown r7 (by simp; omega)
          have hds7 := hds'.kept K7
          have hdc7 := hdc.kept K7
          have om7 := (om.keep b6).grown r7 (by omega)
          have C6 := hbel.trans (b6.mono hbel.size)
          have C7 := C6.grown r7 C6.size (fun z hz => by cases hz; exact hG5)
          clear kd kS' hds' hdc om b6 s6 k6 r7 K7 C6 lS lM lD
          generalize w5.heap.size = GC at *
          have HC1 : Hid (∀ w', Below w7.heap.size w7 w' → Calls Try.prog 17 #[d.v, .int .u64 0] w' fun e w'' => ∃ d' : DV, e = .returned d'.v ∧ DkV w'' d' (D.crash 0) ∧ Below w'.heap.size w' w'') := hid fun w' hb => crash_any d D 0 w' (kd7.d.keep hb) (by omega) (by omega)
          have HC2 : Hid (∀ w', Below w7.heap.size w7 w' → Calls Try.prog 17 #[d.v, .int .u64 aw] w' fun e w'' => ∃ d' : DV, e = .returned d'.v ∧ DkV w'' d' (D.crash aw) ∧ Below w'.heap.size w' w'') := hid fun w' hb => crash_any d D aw w' (kd7.d.keep hb) (by omega) (by rw [← HAW.out, ones_all]; decide)
          have HC3 : Hid (∀ w', Below w7.heap.size w7 w' → Calls Try.prog 17 #[dc.v, .int .u64 ch] w' fun e w'' => ∃ d' : DV, e = .returned d'.v ∧ DkV w'' d' ((D.crash ch).crash ch) ∧ Below w'.heap.size w' w'') := hid fun w' hb => crash_any dc (D.crash ch) ch w' (hdc7.keep hb) (Nat.zero_le _) hch
          have HE1 : Hid (∀ w' (d' : DV), Below w7.heap.size w7 w' → DkV w' d' (D.crash 0) → Calls Try.prog 23 #[d'.v, ds.v] w' fun e w'' => e = .returned (.bool true) ∧ Below w'.heap.size w' w'') := hid fun w' d' hb hd' => dkEqual_any d' ds (D.crash 0) DS w' hd' (hds7.keep hb) true ⟨fun _ => kp1 (HDD.out.trans HDs.out.1.symm) HDD2.out HDs.out.2, fun _ => rfl⟩
          have HE2 : Hid (∀ w' (d' : DV), Below w7.heap.size w7 w' → DkV w' d' (D.crash aw) → Calls Try.prog 23 #[d'.v, d.sync.v] w' fun e w'' => e = .returned (.bool true) ∧ Below w'.heap.size w' w'') := hid fun w' d' hb hd' => dkEqual_any d' d.sync (D.crash aw) D.sync w' hd' (kd7.d.keep hb).sync true ⟨fun _ => by rw [← HAW.out, ones_all]; exact kp2 D, fun _ => rfl⟩
          have HE3 : Hid (∀ w' (d' : DV), Below w7.heap.size w7 w' → DkV w' d' ((D.crash ch).crash ch) → Calls Try.prog 23 #[d'.v, dc.v] w' fun e w'' => e = .returned (.bool true) ∧ Below w'.heap.size w' w'') := hid fun w' d' hb hd' => dkEqual_any d' dc ((D.crash ch).crash ch) (D.crash ch) w' hd' (hdc7.keep hb) true ⟨fun _ => kp3 D ch, fun _ => rfl⟩
          have HPe : Hid (∀ w', Calls Try.prog 24 #[dc.v] w' fun e w'' => e = .returned (.int .i64 0) ∧ Below w'.heap.size w' w'') := hid fun w' => by
            have := pending_any dc w'
            rwa [show dc.m = 0 from hdc7.m] at this
          have lD := kd7.k.lt
          have lS := kS7.lt
          have lC := k7.lt
          refine wp_region_head 118 27 [63, 64, 65, 66, 67, 68, 69, 70, 71, 72, 73, 74, 75, 76, 77, 78, 79, 80, 81, 82, 83, 84, 85, 86, 87, 88, 89] [] ((fun kq => ([fun u w' => u = d.v, fun u w' => ∃ (c1 : DV), u = c1.v ∧ DkV w' c1 (D.crash 0), fun u w' => u = ds.v, fun u w' => u = .bool true, fun u w' => u = .bool false, fun u w' => u = .bool false, fun u w' => u = d.v, fun u w' => u = .int .u64 aw, fun u w' => ∃ (c2 : DV), u = c2.v ∧ DkV w' c2 (D.crash aw), fun u w' => u = d.v, fun u w' => u = d.sync.v, fun u w' => u = .bool true, fun u w' => u = .bool false, fun u w' => u = .bool false, fun u w' => u = .bool false, fun u w' => u = dc.v, fun u w' => u = .int .i64 0, fun u w' => u = .bool false, fun u w' => u = .bool false, fun u w' => u = .bool false, fun u w' => u = dc.v, fun u w' => u = .int .u64 ch, fun u w' => ∃ (c3 : DV), u = c3.v ∧ DkV w' c3 ((D.crash ch).crash ch), fun u w' => u = dc.v, fun u w' => u = .bool true, fun u w' => u = .bool false, fun u w' => u = .bool false] : List (Value → World → Prop)).getD kq (fun _ _ => True))) (by kernel_rfl) rfl (by kernel_rfl) (.inl rfl) ?grow ?step ?tail
          case step =>
            simp only [List.take_succ_cons, List.take_zero]
            refine HSteps.cons ?_ ?_
            · intro f w' hb hU
              obtain ⟨x0', x1', x2', x3', x4'⟩ := (kd7.k.keep hb).c5
              simp only [putAll, List.foldl_cons, List.foldl_nil]
              go_frame
              go_wp2_with fail
              exact ⟨rfl, _, rfl, Below.refl _ _, rfl⟩
            refine HSteps.cons ?_ ?_
            · intro f w' hb hU
              obtain u0 : f 63 = d.v := hU.get ⟨0, .data⟩ (by simp) rfl
              have R2 := HC1.out w' hb
              simp only [putAll, List.foldl_cons, List.foldl_nil]
              go_frame
              try simp only [u0]
              go_wp2_with fail
              refine (R2).mono ?_
              rintro e w3 ⟨c1, rfl, hc1, b3⟩
              go_wp2_with fail
              exact ⟨rfl, _, rfl, b3, c1, rfl, hc1⟩
            refine HSteps.cons ?_ ?_
            · intro f w' hb hU
              obtain ⟨x0', x1', x2', x3', x4'⟩ := (kS7.keep hb).c5
              simp only [putAll, List.foldl_cons, List.foldl_nil]
              go_frame
              go_wp2_with fail
              exact ⟨rfl, _, rfl, Below.refl _ _, rfl⟩
            refine HSteps.cons ?_ ?_
            · intro f w' hb hU
              obtain ⟨c1, u1, v1_0⟩ : ∃ (c1 : DV), f 64 = c1.v ∧ DkV w' c1 (D.crash 0) := hU.get ⟨1, .data⟩ (by simp) rfl
              obtain u2 : f 65 = ds.v := hU.get ⟨2, .data⟩ (by simp) rfl
              have R2 := HE1.out w' c1 hb v1_0
              simp only [putAll, List.foldl_cons, List.foldl_nil]
              go_frame
              try simp only [u1, u2]
              go_wp2_with fail
              refine (R2).mono ?_
              rintro e w3 ⟨rfl, b3⟩
              go_wp2_with fail
              exact ⟨rfl, _, rfl, b3, rfl⟩
            refine HSteps.cons ?_ ?_
            · intro f w' hb hU
              obtain u3 : f 66 = .bool true := hU.get ⟨3, .data⟩ (by simp) rfl
              simp only [putAll, List.foldl_cons, List.foldl_nil]
              go_frame
              try simp only [u3]
              go_wp2_with fail
              exact ⟨rfl, _, rfl, Below.refl _ _, rfl⟩
            refine HSteps.cons ?_ ?_
            · intro f w' hb hU
              obtain u4 : f 67 = .bool false := hU.get ⟨4, .data⟩ (by simp) rfl
              obtain u3 : f 66 = .bool true := hU.get ⟨3, .chain⟩ (by simp) rfl
              simp only [putAll, List.foldl_cons, List.foldl_nil]
              go_frame
              try simp only [u4, u3]
              go_wp2_with fail
              exact ⟨rfl, _, rfl, Below.refl _ _, rfl⟩
            refine HSteps.cons ?_ ?_
            · intro f w' hb hU
              simp only [putAll, List.foldl_cons, List.foldl_nil]
              go_frame
              obtain u5 : f 68 = .bool false := hU.get ⟨5, .guard⟩ (by simp) rfl
              obtain ⟨x0', x1', x2', x3', x4'⟩ := (kd7.k.keep hb).c5
              try simp only [u5]
              go_wp2_with fail
              exact ⟨rfl, _, rfl, Below.refl _ _, rfl⟩
            refine HSteps.cons ?_ ?_
            · intro f w' hb hU
              simp only [putAll, List.foldl_cons, List.foldl_nil]
              go_frame
              obtain u5 : f 68 = .bool false := hU.get ⟨5, .guard⟩ (by simp) rfl
              try simp only [u5]
              go_wp2_with fail
              exact ⟨rfl, _, rfl, Below.refl _ _, rfl⟩
            refine HSteps.cons ?_ ?_
            · intro f w' hb hU
              simp only [putAll, List.foldl_cons, List.foldl_nil]
              go_frame
              obtain u6 : f 69 = d.v := hU.get ⟨6, .data⟩ (by simp) rfl
              obtain u7 : f 70 = .int .u64 aw := hU.get ⟨7, .data⟩ (by simp) rfl
              obtain u5 : f 68 = .bool false := hU.get ⟨5, .chain⟩ (by simp) rfl
              have R2 := HC2.out w' hb
              try simp only [u6, u7, u5]
              go_wp2_with fail
              refine (R2).mono ?_
              rintro e w3 ⟨c2, rfl, hc1, b3⟩
              go_wp2_with fail
              exact ⟨rfl, _, rfl, b3, c2, rfl, hc1⟩
            refine HSteps.cons ?_ ?_
            · intro f w' hb hU
              simp only [putAll, List.foldl_cons, List.foldl_nil]
              go_frame
              obtain u5 : f 68 = .bool false := hU.get ⟨5, .guard⟩ (by simp) rfl
              obtain ⟨x0', x1', x2', x3', x4'⟩ := (kd7.k.keep hb).c5
              try simp only [u5]
              go_wp2_with fail
              exact ⟨rfl, _, rfl, Below.refl _ _, rfl⟩
            refine HSteps.cons ?_ ?_
            · intro f w' hb hU
              simp only [putAll, List.foldl_cons, List.foldl_nil]
              go_frame
              obtain u9 : f 72 = d.v := hU.get ⟨9, .data⟩ (by simp) rfl
              obtain ⟨c2, u8, v8_0⟩ : ∃ (c2 : DV), f 71 = c2.v ∧ DkV w' c2 (D.crash aw) := hU.get ⟨8, .chain⟩ (by simp) rfl
              obtain u5 : f 68 = .bool false := hU.get ⟨5, .guard⟩ (by simp) rfl
              have R2 := sync_any d w'
              try simp only [u9, u8, u5]
              go_wp2_with fail
              refine (R2).mono ?_
              rintro e w3 ⟨rfl, b3⟩
              go_wp2_with fail
              exact ⟨rfl, _, rfl, b3, rfl⟩
            refine HSteps.cons ?_ ?_
            · intro f w' hb hU
              simp only [putAll, List.foldl_cons, List.foldl_nil]
              go_frame
              obtain ⟨c2, u8, v8_0⟩ : ∃ (c2 : DV), f 71 = c2.v ∧ DkV w' c2 (D.crash aw) := hU.get ⟨8, .data⟩ (by simp) rfl
              obtain u10 : f 73 = d.sync.v := hU.get ⟨10, .data⟩ (by simp) rfl
              obtain u5 : f 68 = .bool false := hU.get ⟨5, .guard⟩ (by simp) rfl
              have R2 := HE2.out w' c2 hb v8_0
              try simp only [u8, u10, u5]
              go_wp2_with fail
              refine (R2).mono ?_
              rintro e w3 ⟨rfl, b3⟩
              go_wp2_with fail
              exact ⟨rfl, _, rfl, b3, rfl⟩
            refine HSteps.cons ?_ ?_
            · intro f w' hb hU
              simp only [putAll, List.foldl_cons, List.foldl_nil]
              go_frame
              obtain u11 : f 74 = .bool true := hU.get ⟨11, .data⟩ (by simp) rfl
              obtain u5 : f 68 = .bool false := hU.get ⟨5, .guard⟩ (by simp) rfl
              try simp only [u11, u5]
              go_wp2_with fail
              exact ⟨rfl, _, rfl, Below.refl _ _, rfl⟩
            refine HSteps.cons ?_ ?_
            · intro f w' hb hU
              obtain u5 : f 68 = .bool false := hU.get ⟨5, .data⟩ (by simp) rfl
              obtain u12 : f 75 = .bool false := hU.get ⟨12, .data⟩ (by simp) rfl
              simp only [putAll, List.foldl_cons, List.foldl_nil]
              go_frame
              try simp only [u5, u12]
              go_wp2_with fail
              exact ⟨rfl, _, rfl, Below.refl _ _, rfl⟩
            refine HSteps.cons ?_ ?_
            · intro f w' hb hU
              obtain u13 : f 76 = .bool false := hU.get ⟨13, .data⟩ (by simp) rfl
              obtain u11 : f 74 = .bool true := hU.get ⟨11, .chain⟩ (by simp) rfl
              simp only [putAll, List.foldl_cons, List.foldl_nil]
              go_frame
              try simp only [u13, u11]
              go_wp2_with fail
              exact ⟨rfl, _, rfl, Below.refl _ _, rfl⟩
            refine HSteps.cons ?_ ?_
            · intro f w' hb hU
              simp only [putAll, List.foldl_cons, List.foldl_nil]
              go_frame
              obtain u14 : f 77 = .bool false := hU.get ⟨14, .guard⟩ (by simp) rfl
              obtain ⟨x0', x1', x2', x3', x4'⟩ := (k7.keep hb).c5
              try simp only [u14]
              go_wp2_with fail
              exact ⟨rfl, _, rfl, Below.refl _ _, rfl⟩
            refine HSteps.cons ?_ ?_
            · intro f w' hb hU
              simp only [putAll, List.foldl_cons, List.foldl_nil]
              go_frame
              obtain u15 : f 78 = dc.v := hU.get ⟨15, .data⟩ (by simp) rfl
              obtain u14 : f 77 = .bool false := hU.get ⟨14, .chain⟩ (by simp) rfl
              have R2 := HPe.out w'
              try simp only [u15, u14]
              go_wp2_with fail
              refine (R2).mono ?_
              rintro e w3 ⟨rfl, b3⟩
              go_wp2_with fail
              exact ⟨rfl, _, rfl, b3, rfl⟩
            refine HSteps.cons ?_ ?_
            · intro f w' hb hU
              simp only [putAll, List.foldl_cons, List.foldl_nil]
              go_frame
              obtain u16 : f 79 = .int .i64 0 := hU.get ⟨16, .data⟩ (by simp) rfl
              obtain u14 : f 77 = .bool false := hU.get ⟨14, .guard⟩ (by simp) rfl
              try simp only [u16, u14]
              go_wp2_with fail
              exact ⟨rfl, _, rfl, Below.refl _ _, rfl⟩
            refine HSteps.cons ?_ ?_
            · intro f w' hb hU
              obtain u14 : f 77 = .bool false := hU.get ⟨14, .data⟩ (by simp) rfl
              obtain u17 : f 80 = .bool false := hU.get ⟨17, .data⟩ (by simp) rfl
              simp only [putAll, List.foldl_cons, List.foldl_nil]
              go_frame
              try simp only [u14, u17]
              go_wp2_with fail
              exact ⟨rfl, _, rfl, Below.refl _ _, rfl⟩
            refine HSteps.cons ?_ ?_
            · intro f w' hb hU
              obtain u18 : f 81 = .bool false := hU.get ⟨18, .data⟩ (by simp) rfl
              obtain u16 : f 79 = .int .i64 0 := hU.get ⟨16, .chain⟩ (by simp) rfl
              simp only [putAll, List.foldl_cons, List.foldl_nil]
              go_frame
              try simp only [u18, u16]
              go_wp2_with fail
              exact ⟨rfl, _, rfl, Below.refl _ _, rfl⟩
            refine HSteps.cons ?_ ?_
            · intro f w' hb hU
              simp only [putAll, List.foldl_cons, List.foldl_nil]
              go_frame
              obtain u19 : f 82 = .bool false := hU.get ⟨19, .guard⟩ (by simp) rfl
              obtain ⟨x0', x1', x2', x3', x4'⟩ := (k7.keep hb).c5
              try simp only [u19]
              go_wp2_with fail
              exact ⟨rfl, _, rfl, Below.refl _ _, rfl⟩
            refine HSteps.cons ?_ ?_
            · intro f w' hb hU
              simp only [putAll, List.foldl_cons, List.foldl_nil]
              go_frame
              obtain u19 : f 82 = .bool false := hU.get ⟨19, .guard⟩ (by simp) rfl
              try simp only [u19]
              go_wp2_with fail
              exact ⟨rfl, _, rfl, Below.refl _ _, rfl⟩
            refine HSteps.cons ?_ ?_
            · intro f w' hb hU
              simp only [putAll, List.foldl_cons, List.foldl_nil]
              go_frame
              obtain u20 : f 83 = dc.v := hU.get ⟨20, .data⟩ (by simp) rfl
              obtain u21 : f 84 = .int .u64 ch := hU.get ⟨21, .data⟩ (by simp) rfl
              obtain u19 : f 82 = .bool false := hU.get ⟨19, .chain⟩ (by simp) rfl
              have R2 := HC3.out w' hb
              try simp only [u20, u21, u19]
              go_wp2_with fail
              refine (R2).mono ?_
              rintro e w3 ⟨c3, rfl, hc1, b3⟩
              go_wp2_with fail
              exact ⟨rfl, _, rfl, b3, c3, rfl, hc1⟩
            refine HSteps.cons ?_ ?_
            · intro f w' hb hU
              simp only [putAll, List.foldl_cons, List.foldl_nil]
              go_frame
              obtain u19 : f 82 = .bool false := hU.get ⟨19, .guard⟩ (by simp) rfl
              obtain ⟨x0', x1', x2', x3', x4'⟩ := (k7.keep hb).c5
              try simp only [u19]
              go_wp2_with fail
              exact ⟨rfl, _, rfl, Below.refl _ _, rfl⟩
            refine HSteps.cons ?_ ?_
            · intro f w' hb hU
              simp only [putAll, List.foldl_cons, List.foldl_nil]
              go_frame
              obtain ⟨c3, u22, v22_0⟩ : ∃ (c3 : DV), f 85 = c3.v ∧ DkV w' c3 ((D.crash ch).crash ch) := hU.get ⟨22, .data⟩ (by simp) rfl
              obtain u23 : f 86 = dc.v := hU.get ⟨23, .data⟩ (by simp) rfl
              obtain u19 : f 82 = .bool false := hU.get ⟨19, .guard⟩ (by simp) rfl
              have R2 := HE3.out w' c3 hb v22_0
              try simp only [u22, u23, u19]
              go_wp2_with fail
              refine (R2).mono ?_
              rintro e w3 ⟨rfl, b3⟩
              go_wp2_with fail
              exact ⟨rfl, _, rfl, b3, rfl⟩
            refine HSteps.cons ?_ ?_
            · intro f w' hb hU
              simp only [putAll, List.foldl_cons, List.foldl_nil]
              go_frame
              obtain u24 : f 87 = .bool true := hU.get ⟨24, .data⟩ (by simp) rfl
              obtain u19 : f 82 = .bool false := hU.get ⟨19, .guard⟩ (by simp) rfl
              try simp only [u24, u19]
              go_wp2_with fail
              exact ⟨rfl, _, rfl, Below.refl _ _, rfl⟩
            refine HSteps.cons ?_ ?_
            · intro f w' hb hU
              obtain u19 : f 82 = .bool false := hU.get ⟨19, .data⟩ (by simp) rfl
              obtain u25 : f 88 = .bool false := hU.get ⟨25, .data⟩ (by simp) rfl
              simp only [putAll, List.foldl_cons, List.foldl_nil]
              go_frame
              try simp only [u19, u25]
              go_wp2_with fail
              exact ⟨rfl, _, rfl, Below.refl _ _, rfl⟩
            exact HSteps.nil
          case grow =>
            intro kq u wa wb hb hu
            rcases kq with _ | _ | _ | _ | _ | _ | _ | _ | _ | _ | _ | _ | _ | _ | _ | _ | _ | _ | _ | _ | _ | _ | _ | _ | _ | _ | _ | kq
            · exact hu
            · obtain ⟨c1, ue, uf0⟩ := hu
              exact ⟨c1, ue, uf0.keep hb⟩
            · exact hu
            · exact hu
            · exact hu
            · exact hu
            · exact hu
            · exact hu
            · obtain ⟨c2, ue, uf0⟩ := hu
              exact ⟨c2, ue, uf0.keep hb⟩
            · exact hu
            · exact hu
            · exact hu
            · exact hu
            · exact hu
            · exact hu
            · exact hu
            · exact hu
            · exact hu
            · exact hu
            · exact hu
            · exact hu
            · exact hu
            · obtain ⟨c3, ue, uf0⟩ := hu
              exact ⟨c3, ue, uf0.keep hb⟩
            · exact hu
            · exact hu
            · exact hu
            · exact hu
            · trivial
          case tail =>
            intro f w7 hb7 hU
            obtain u26 : f 89 = .bool false := hU.get 26 (by decide)
            simp only [List.drop_succ_cons, List.drop_zero, putAll, List.foldl_cons, List.foldl_nil]
            go_frame
            simp only [u26]
            clear u26
            clear hU
            replace kS7 := kS7.keep hb7
            replace hds7 := hds7.keep hb7
            replace k7 := k7.keep hb7
            replace hdc7 := hdc7.keep hb7
            replace om7 := om7.keep hb7
            replace C7 := C7.trans (hb7.mono C7.size)
            clear hb7 HC1 HC2 HC3 HE1 HE2 HE3 HPe kd7 lD lS lC
            obtain ⟨w9, hw9⟩ : ∃ z, z = w7 := ⟨_, rfl⟩
            subst hw9
            go_wp2_with fail
            go_loopw [91] (fun i wr => ∃ j : Nat, j ≤ q ∧ i = .int .i64 j ∧ Below w9.heap.size w9 wr) (fun i _ => q - (intOf i).toNat)
            case atStart => exact ⟨0, Nat.zero_le _, rfl, Below.refl _ _⟩
            case round =>
              obtain ⟨j, hj, rfl, hbj⟩ := hrel
              have kS8 := kS7.keep hbj
              have hds8 := hds7.keep hbj
              have k8 := k7.keep hbj
              have hdc8 := hdc7.keep hbj
              have om8 := om7.keep hbj
              have C8 := C7.trans (hbj.mono C7.size)
              by_cases hlt : j < q
              · have t2 : (j : Int) < (q : Int) := by omega
                obtain ⟨x0, x1, x2, x3, x4⟩ := k8.c5
                have lC := k8.lt
                go_wp2_with fail
                have R := read_good dc (D.crash ch) j wr hdc8 (by show j < D.n; rw [HDD.out]; exact hlt)
                dsimp only [DV.v] at R
                refine R.mono ?_
                clear R
                rintro e w10 ⟨ga, rfl, hown1, b10⟩
                have ra : RB w10 (some ⟨ga, 0, none⟩) 128 ((D.crash ch).cur j) := RL.of_own hown1
                replace kS8 := kS8.keep b10
                replace hds8 := hds8.keep b10
                replace om8 := om8.keep b10
                replace C8 := C8.trans (b10.mono C8.size)
                replace hbj := hbj.trans (b10.mono hbj.size)
                clear x0 x1 x2 x3 x4 lC k8 hdc8 hown1 b10
                obtain ⟨x0, x1, x2, x3, x4⟩ := kS8.c5
                have lC := kS8.lt
                go_wp2_with fail
                have R := read_good ds DS j w10 hds8 (by rw [HDs.out.1]; exact hlt)
                dsimp only [DV.v] at R
                refine R.mono ?_
                clear R
                rintro e w11 ⟨gb, rfl, hown2, b11⟩
                have rb : RB w11 (some ⟨gb, 0, none⟩) 128 (DS.cur j) := RL.of_own hown2
                have ra2 := ra.below b11
                replace om8 := om8.keep b11
                replace C8 := C8.trans (b11.mono C8.size)
                replace hbj := hbj.trans (b11.mono hbj.size)
                clear x0 x1 x2 x3 x4 lC kS8 hds8 hown2 b11 ra
                have hkey : keyOf Try.prog 3 (.int .i64 (j : Int)) = some (.int .i64 (j : Int)) := by
                  have hwf : (Lit.int .i64 (j : Int)).wf = true := by
                    simp [Lit.wf, IntKind.min, IntKind.max, IntKind.signed, IntKind.bits]
                    omega
                  simp [keyOf, mapKey, Try.underlying3, hwf]
                have hz : (zeroValue 4).run Try.prog w11 = .ok (.bool false) w11 := by kernel_rfl
                obtain ⟨v, ps, hrun, hv⟩ := World.ownsMap.lookup om8 (Maps.int_keyed Try.underlying3) Try.underlying57 hz (plainElem_bool Try.underlying4 false) hkey
                obtain ⟨bb, rfl, hbb⟩ := bool_el Try.underlying4 hv
                have hat : T.atKey (.int .i64 (j : Int)) (.lit (.bool false)) = .lit (.bool bb) := congrArg Prod.fst hbb
                have HAT := hid hat
                clear hat hbb hv hz hkey
                cases bb with
                | true =>
                  go_wp2_with fail
                  go_roundw
                  case rel => exact ⟨j + 1, by omega, by go_num, hbj⟩
                  case measure => simp [intOf]; omega
                | false =>
                  have hno : ∀ x ∈ D.W, x.1 ≠ j := by
                    intro x hx he
                    have := HT.out.2 (j : Int) ⟨x, hx, by rw [he]⟩
                    rw [HAT.out] at this
                    cases this
                  have he : (D.crash ch).cur j = DS.cur j := by
                    rw [kp4 hno, HDD2.out]
                    unfold Dk.cur
                    rw [HDs.out.2]
                    rfl
                  rw [he] at ra2
                  generalize DS.cur j = U at ra2 rb
                  have R6 := equal_any _ _ 128 128 128 128 _ _ _ ra2 rb
                  rw [show (U == U) = true from beq_self_eq_true U] at R6
                  clear he hno
                  go_wp2_with fail
                  refine R6.mono ?_
                  rintro e w15 ⟨rfl, rfl⟩
                  go_wp2_with fail
                  go_roundw
                  case rel => exact ⟨j + 1, by omega, by go_num, hbj⟩
                  case measure => simp [intOf]; omega
              · obtain rfl : j = q := by omega
                go_wp2_with fail
                refine (awake_any _).mono ?_
                rintro e w10 ⟨rfl, b10⟩
                go_wp2_with fail
                go_ret
                exact ⟨rfl, C8.trans (b10.mono C8.size)⟩
set_option maxRecDepth 100000 in
set_option maxHeartbeats 4000000 in
theorem keeps_walk (n : Int) (A : Option Addr) (m c : Nat) (X : List Ac) (ch : Nat) (w : World) (hX : X.length = m) (hr : RL w 5 A m (X.flatMap Ac.cs)) (hok : ∀ x ∈ X, x.ok) (hmc : m ≤ c) (hc : c ≤ 9223372036854775807) (hch : ch < 18446744073709551616) :
    Calls Try.prog 6 #[.int .i64 n, .slice A m c, .int .u64 ch] w fun e w' => e = .returned (.bool true) ∧ Below w.heap.size w w' := by
  by_cases hb1 : n < 1 ∨ 12 < n ∨ 60 < m
  · clear hr hok hX
    go_enter Try.func6, Try.ntmps6
    go_wp2_with fail
    refine (few_no n A m c w hb1).mono ?_
    rintro e w' ⟨rfl, rfl⟩
    go_wp2_with fail
    refine (awake_any w).mono ?_
    rintro e w1 ⟨rfl, b1⟩
    go_wp2_with fail
    go_ret
    exact ⟨rfl, b1⟩
  · obtain ⟨q, rfl⟩ : ∃ q : Nat, n = q := ⟨n.toNat, by omega⟩
    exact keeps_go q A m c X ch w (by omega) (by omega) (by omega) hX hr hok hmc hc hch
end Go.Proofs.Ythpalmncfcahkaa

