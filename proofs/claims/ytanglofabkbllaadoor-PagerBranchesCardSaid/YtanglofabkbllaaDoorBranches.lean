/- The walk of PagerBranches. Conditions: the table of remainders is laid; the arguments read. -/
import Derived.Test.YtanglofabkbllaaDoorLaw
import Derived.Test.YtanglofabkbllaaDoorHeadA
import Derived.Deep.Cut
import Derived.Deep.CutBlock
import Derived.Deep.DeepCutAuto
set_option linter.unusedSimpArgs false
set_option linter.unusedVariables false
namespace Go.Proofs.YtanglofabkbllaaDoor
open Go.RowKit

theorem Sto.up {F : Secs} {k m sec n N : Nat} {M : Nat → Prop} {w : World} {y : StV} {D : Dk} {S : RS} (h : Sto F k sec n N M w y D S) (hk : k ≤ m) : Sto F m sec n N M w y D S := ⟨h.sim.mono hk, h.s1, h.s2, h.n, h.dn, h.d, h.v⟩
section
open Go.ChangeShapes Go.WideShapes Go.ChangeAt Go.Joins
set_option maxRecDepth 100000
theorem open_pair {H : Type} {enc : TypeId × Value → H} {W : World} {r : Reach} {b0 base : Nat} {sp : Nat → Bool} {held : Bool} {v : Value} {d : DataW H} {p : List MemPlace}
    (hv : Value.okWide Tryd.prog W r b0 91 v) (h : DataW.Trod enc Tryd.prog W base sp held 91 v d p) :
    ∃ (A1 : Option Addr) (m1 c1 : Nat) (X1 : List Ac) (A2 : Option Addr) (m2 c2 : Nat) (X2 : List Ac), v = .agg #[.slice A1 m1 c1, .slice A2 m2 c2] ∧
      (X1.length = m1 ∧ RL W 5 A1 m1 (X1.flatMap Ac.cs) ∧ (∀ x ∈ X1, x.ok) ∧ m1 ≤ c1 ∧ c1 ≤ 9223372036854775807) ∧
      (X2.length = m2 ∧ RL W 5 A2 m2 (X2.flatMap Ac.cs) ∧ (∀ x ∈ X2, x.ok) ∧ m2 ≤ c2 ∧ c2 ≤ 9223372036854775807) := by
  simp only [Value.okWide, Tryd.underlying91] at hv
  obtain ⟨cs, rfl, h2, ts, hts, _, hall⟩ := hv
  obtain ⟨l⟩ := cs
  have c2 : Tryd.prog.cellsOf 91 = 2 := by kernel_rfl
  have c1 : Tryd.prog.cellsOf 52 = 1 := by kernel_rfl
  have hct : Tryd.prog.cellTypes Tryd.prog.depth 91 = some [52, 52] := by kernel_rfl
  rw [hct] at hts
  cases hts
  rw [c2] at h2
  match l, h2 with
  | [q0, q1], _ =>
    obtain ⟨u0, hu0, ok0⟩ := hall 0 q0 rfl
    obtain ⟨u1, hu1, ok1⟩ := hall 1 q1 rfl
    cases (show some 52 = some u0 from hu0)
    cases (show some 52 = some u1 from hu1)
    have w0 : Value.okWide Tryd.prog W r b0 52 q0 := by simp only [Value.okWide, Tryd.underlying52]; exact ok0
    have w1 : Value.okWide Tryd.prog W r b0 52 q1 := by simp only [Value.okWide, Tryd.underlying52]; exact ok1
    obtain ⟨fuel, hf⟩ := h
    obtain ⟨xs, m, _, _, _, hlen, hel⟩ := DataW.trod_array Tryd.underlying91 (by simpa [Value.cells] using hf)
    rw [c1] at hel
    have e0 := hel 0 (by omega)
    have e1 := hel 1 (by omega)
    match xs, hlen with
    | [y0, y1], _ =>
      obtain ⟨a0, n0, k0, rfl⟩ := okWide_slice Tryd.underlying52 w0
      obtain ⟨a1, n1, k1, rfl⟩ := okWide_slice Tryd.underlying52 w1
      have t0 : DataW.Trod enc Tryd.prog W base sp held 52 (.slice a0 n0 k0) y0.1 y0.2 := ⟨m, by simpa [Value.cells] using e0⟩
      have t1 : DataW.Trod enc Tryd.prog W base sp held 52 (.slice a1 n1 k1) y1.1 y1.2 := ⟨m, by simpa [Value.cells] using e1⟩
      obtain ⟨A1, m1, c1, X1, f1, g1⟩ := open_acts w0 t0
      obtain ⟨A2, m2, c2, X2, f2, g2⟩ := open_acts w1 t1
      cases f1
      cases f2
      exact ⟨_, _, _, X1, _, _, _, X2, rfl, g1, g2⟩
end

set_option maxRecDepth 100000 in
set_option maxHeartbeats 16000000 in
theorem branches_walk (n0 : Nat) (A1 : Option Addr) (m1 c1 : Nat) (X1 : List Ac) (A2 : Option Addr) (m2 c2 : Nat) (X2 : List Ac) (w : World) (hT : Tab w) (hn0 : n0 ≤ 255)
    (g1 : X1.length = m1 ∧ RL w 5 A1 m1 (X1.flatMap Ac.cs) ∧ (∀ x ∈ X1, x.ok) ∧ m1 ≤ c1 ∧ c1 ≤ 9223372036854775807) (g2 : X2.length = m2 ∧ RL w 5 A2 m2 (X2.flatMap Ac.cs) ∧ (∀ x ∈ X2, x.ok) ∧ m2 ≤ c2 ∧ c2 ≤ 9223372036854775807) :
    Calls Tryd.prog 9 #[.int .u8 n0, .agg #[.slice A1 m1 c1, .slice A2 m2 c2]] w fun e w' => e = .returned (.bool true) ∧ Below w.heap.size w w' := by
  have HTb := hid hT
  have HG1 := hid g1
  have HG2 := hid g2
  clear hT g1 g2
  go_enter Tryd.func9, Tryd.ntmps9
  go_upto_region 1 with fail
  have kb : Blk (w.alloc (.cells #[.slice A1 m1 c1, .slice A2 m2 c2] 91)) w.heap.size 91 [.slice A1 m1 c1, .slice A2 m2 c2] := Blk.new w _ _
  have hB0 : Below w.heap.size w (w.alloc (.cells #[.slice A1 m1 c1, .slice A2 m2 c2] 91)) := (Below.refl _ _).alloc (Nat.le_refl _) _
  obtain ⟨w0, hw0⟩ : ∃ z, w.alloc (.cells #[.slice A1 m1 c1, .slice A2 m2 c2] 91) = z := ⟨_, rfl⟩
  rw [hw0] at kb hB0 ⊢
  clear hw0
  obtain ⟨GB, hGB⟩ : ∃ z, w.heap.size = z := ⟨_, rfl⟩
  rw [hGB] at kb ⊢
  have HGB := hid hGB
  clear hGB
  obtain ⟨z0, z1⟩ := kb.c2
  have lb := kb.lt
  have FW := few_any A1 m1 c1 X1 w0 HG1.out.1 (HG1.out.2.1.below hB0) HG1.out.2.2.2.1 HG1.out.2.2.2.2
  go_wp2_with fail
  refine FW.mono ?_
  clear FW
  rintro e wf ⟨rfl, bf⟩
  have kf := kb.keep bf
  have Bf := hB0.trans (bf.mono hB0.size)
  clear kb z0 z1 lb hB0 bf
  obtain ⟨z0, z1⟩ := kf.c2
  have lb := kf.lt
  cases hf1 : fewB X1 with
  | false =>
    go_wp2_with fail
    refine (awake_any wf (HTb.out.keep Bf)).mono ?_
    rintro e w2 ⟨rfl, b2⟩
    go_wp2_with fail
    go_ret
    exact ⟨rfl, Bf.trans (b2.mono Bf.size)⟩
  | true =>
    have FW := few_any A2 m2 c2 X2 wf HG2.out.1 (HG2.out.2.1.below Bf) HG2.out.2.2.2.1 HG2.out.2.2.2.2
    have HF1 := hid (few_yes hf1)
    clear hf1
    go_wp2_with fail
    refine FW.mono ?_
    clear FW
    rintro e w1 ⟨rfl, b1⟩
    have kb := kf.keep b1
    have B := Bf.trans (b1.mono Bf.size)
    clear kf z0 z1 lb Bf b1
    cases hf2 : fewB X2 with
    | false =>
      go_wp2_with fail
      refine (awake_any w1 (HTb.out.keep B)).mono ?_
      rintro e w2 ⟨rfl, b2⟩
      go_wp2_with fail
      go_ret
      exact ⟨rfl, B.trans (b2.mono B.size)⟩
    | true =>
      have HF2 := hid (few_yes hf2)
      clear hf2
      obtain ⟨nn, hnn⟩ : ∃ z, n0 % 6 = z := ⟨_, rfl⟩
      have q1 : (n0 : Int).tmod 6 = (nn : Int) := by rw [Int.tmod_eq_emod_of_nonneg (by omega)]; omega
      have h1 : nn < 6 := by omega
      clear hnn
      obtain ⟨q, hq⟩ : ∃ z, nn + 1 = z := ⟨_, rfl⟩
      have q3 := IntWalk.i64_in (nn : Int) (by omega)
      have q4 : (nn : Int) + 1 = (q : Int) := by omega
      have q5 := IntWalk.i64_in (q : Int) (by omega)
      have hq1 : 1 ≤ q ∧ q ≤ 6 := by omega
      clear hq h1
      go_wp2_with fail
      have R := begin_any (M := fun _ => True) q 0 w1 (HTb.out.keep B) (fun _ _ => trivial) hq1.1 (by omega) (by omega)
      rw [show ((0 : Nat) : Int) = 0 from rfl] at R
      refine R.mono ?_
      clear R
      rintro e w2 ⟨F, x0, D0, rfl, H, b2⟩
      generalize 0 + 8 * (q + 2) + 1 = N at H
      have B2 := B.trans (b2.mono B.size)
      have kb2 := kb.keep b2
      clear b2 B kb
      have hp0 := H.sim.pok
      have lb2 := kb2.lt
      clear q1 q3 q4 q5
      go_upto_region 5 with (first
        | ((with_reducible refine is_alloc 63 ?_); refine wp_allocB (w := w2) _ arrSto ?_; intro w3 k3 b3 s3; go_frame)
        | ((with_reducible refine is_store 63 ?_); refine wp_storeT w2.heap.size _ x0 hp0 k3 (by rw [StV.cs_len Pgr.zero_ok]) rfl rfl ?_; intro w4 k4 r4; go_frame; have kb4 := (kb2.keep b3).grown r4 (by simp; omega); obtain ⟨z0, z1⟩ := kb4.c2; have l4 := k4.lt)
        | ((with_reducible refine is_load 63 ?_); refine wp_loadT w2.heap.size x0 hp0 k4 rfl ?_; go_frame)
        | ((with_reducible refine is_alloc 63 ?_); refine wp_allocB (w := w4) _ arrSto ?_; intro w5 k5 b5 s5; go_frame)
        | ((with_reducible refine is_store 63 ?_); refine wp_storeT w4.heap.size _ x0 hp0 k5 (by rw [StV.cs_len Pgr.zero_ok]) rfl rfl ?_; intro w6 k6 r6; go_frame; have kb6 := (kb4.keep b5).grown r6 (by have := kb4.lt; simp; omega); obtain ⟨zz0, zz1⟩ := kb6.c2; have lb6 := kb6.lt))
      have hgz := B2.size
      have ba : Below w2.heap.size w2 w4 := b3.grown r4 b3.size (fun z hz => by cases hz; exact Nat.le_refl _)
      have bb : Below w4.heap.size w4 w6 := b5.grown r6 b5.size (fun z hz => by cases hz; exact Nat.le_refl _)
      have hg12 : w2.heap.size < w4.heap.size := l4
      have B6 := B2.trans ((ba.trans (bb.mono ba.size)).mono B2.size)
      have HX6 := hid ((H.lt.mono (M' := fun b => b ≠ w2.heap.size ∧ b ≠ w4.heap.size) (fun b hb => ⟨Nat.ne_of_lt hb.2, by omega⟩)).keep (ba.trans (bb.mono ba.size)))
      have kx6 := k4.keep bb
      have hgb1 : GB < w2.heap.size := lb2
      clear b3 s3 k3 r4 b5 s5 k5 r6 ba bb B2 H z0 z1 kb2 kb4 k4 l4 lb2
      generalize w2.heap.size = G1 at *
      generalize w4.heap.size = G2 at *
      obtain ⟨mm, hmm⟩ : ∃ z, (if m1 < m2 then m2 else m1) = z := ⟨_, rfl⟩
      have hmx : m1 ≤ mm ∧ m2 ≤ mm ∧ mm ≤ 30 := by
        have h3 := HF1.out.1
        have h4 := HF2.out.1
        rw [HG1.out.1] at h3
        rw [HG2.out.1] at h4
        rw [← hmm]
        split <;> omega
      go_cut [39, 40] (fun u v wx => u = .int .i64 mm ∧ v = .int .i64 0 ∧ wx = w6)
      case first =>
        by_cases h : m1 < m2
        · have t1 : (m1 : Int) < (m2 : Int) := by omega
          rw [if_pos h] at hmm
          have HM := hid hmm
          clear hmm h
          go_wp2_with fail
          go_meet
          case rel => exact ⟨by rw [HM.out], rfl, rfl⟩
        · have t1 : ¬ (m1 : Int) < (m2 : Int) := by omega
          rw [if_neg h] at hmm
          have HM := hid hmm
          clear hmm h
          go_wp2_with fail
          go_meet
          case rel => exact ⟨by rw [HM.out], rfl, rfl⟩
      case rest =>
        obtain ⟨rfl, rfl, rfl⟩ := hcut
        clear hmm zz0 zz1 lb6
        go_wp2_with fail
        go_loopw [6, 40] (fun o i wr => ∃ (k : Nat) (x : StV) (D : Dk) (S : RS) (y : StV) (E : Dk) (T : RS), k ≤ mm ∧ o = .bool true ∧ i = .int .i64 k ∧ Blk wr G1 63 x.cs ∧ Blk wr G2 63 y.cs ∧ Blk wr GB 91 [.slice A1 m1 c1, .slice A2 m2 c2] ∧ Hid (Sto F k 0 q N (fun b => b ≠ G1 ∧ b ≠ G2) wr x D S) ∧ Hid (Sto F k 0 q N (fun b => b ≠ G1 ∧ b ≠ G2) wr y E T) ∧ Below w.heap.size w wr) (fun _ i _ => mm - (intOf i).toNat)
        case atStart => exact ⟨0, x0, D0, RS.new q, x0, D0, RS.new q, Nat.zero_le _, rfl, rfl, kx6, k6, kb6, HX6, HX6, B6⟩
        case round =>
          clear kx6 k6 kb6 HX6 B6 hp0
          obtain ⟨k, x, D, S, y, E, T, hk, rfl, rfl, kx, ky, kb, HSx, HSy, hbel⟩ := hrel
          have hpx := HSx.out.sim.pok
          have hpy := HSy.out.sim.pok
          by_cases hlt : k < mm
          · have tm : (k : Int) < (mm : Int) := by omega
            obtain ⟨z0, z1⟩ := kb.c2
            have lb := kb.lt
            go_upto_if 47 with fail
            go_cut [6] (fun o wx => o = .bool true ∧ ∃ (x' : StV) (D' : Dk) (S' : RS), Blk wx G1 63 x'.cs ∧ Blk wx G2 63 y.cs ∧ Blk wx GB 91 [.slice A1 m1 c1, .slice A2 m2 c2] ∧ Hid (Sto F (k + 1) 0 q N (fun b => b ≠ G1 ∧ b ≠ G2) wx x' D' S') ∧ Hid (Sto F k 0 q N (fun b => b ≠ G1 ∧ b ≠ G2) wx y E T) ∧ Below w.heap.size w wx)
            case first =>
              by_cases hl : k < m1
              · have tl : (k : Int) < (m1 : Int) := by omega
                obtain ⟨bA, off, a, rfl, hbb, hx, hcell⟩ := (HG1.out.2.1.below hbel).el (f := Ac.cs) (fun _ => rfl) hl (by omega)
                have C0 := hcell 0 _ rfl
                have C1 := hcell 1 _ rfl
                have C2 := hcell 2 _ rfl
                have C3 := hcell 3 _ rfl
                have C4 := hcell 4 _ rfl
                rw [Nat.add_zero] at C0
                have hmem := List.mem_of_getElem? hx
                have HA := hid (And.intro (HG1.out.2.2.1 a hmem) (HF1.out.2 a hmem))
                clear hcell hx hmem
                have lx := kx.lt
                have ly := ky.lt
                have HDo := hid (fun (β : Option Nat) wx (hb : Below wr.heap.size wr wx) (hβ : ∀ b, β = some b → wr.heap.size ≤ b ∧ b < wx.heap.size) => do_any (M := fun x => (x ≠ G1 ∧ x ≠ G2) ∧ β ≠ some x) x a D S wx (HTb.out.keep (hbel.trans (hb.mono hbel.size))) ((HSx.out.lt.mono (fun b hh => ⟨hh.1, fun e => by have := (hβ _ e).1; omega⟩)).keep hb) (fun b hh => by have h5 := hb.size; exact ⟨⟨by omega, by omega⟩, fun e => by have := (hβ _ e).2; omega⟩) (by omega) HA.out.1 HA.out.2)
                go_wp2_with fail
                have hdec : decide (k < m1) = true := decide_eq_true hl
                try rw [hdec]
                refine wp_region_headAF 102 11 10 [49, 50, 51, 52, 53, 54, 55, 48, 56, 57, 9] [9] (fun β kq => ([fun u w' => u = x.val, fun u w' => u = .pointer (some ⟨GB, 0, none⟩), fun u w' => u = .slice (some ⟨bA, off, none⟩) m1 c1, fun u w' => u = .int .i64 (k : Int), fun u w' => u = .pointer (some ⟨bA, off + k * 5, none⟩), fun u w' => u = a.val, fun u w' => ∃ (nv : StV), ∃ (nD : Dk), ∃ (nS : RS), u = .tuple #[nv.val, .bool true] ∧ Sto F (k + 1) 0 q N (fun x => (x ≠ G1 ∧ x ≠ G2) ∧ β ≠ some x) w' nv nD nS, fun u w' => ∃ (nv : StV), ∃ (nD : Dk), ∃ (nS : RS), u = .tuple #[nv.val, .bool true] ∧ Sto F (k + 1) 0 q N (fun x => (x ≠ G1 ∧ x ≠ G2) ∧ β ≠ some x) w' nv nD nS, fun u w' => ∃ (nv : StV), ∃ (nD : Dk), ∃ (nS : RS), u = nv.val ∧ Sto F (k + 1) 0 q N (fun x => (x ≠ G1 ∧ x ≠ G2) ∧ β ≠ some x) w' nv nD nS, fun u w' => u = .bool true, fun u w' => ∃ (b9 : Nat), u = .pointer (some ⟨b9, 0, none⟩) ∧ β = some b9 ∧ Blk w' b9 63 StV.zero.cs] : List (Value → World → Prop)).getD kq (fun _ _ => True)) (by kernel_rfl) rfl (by kernel_rfl) (by decide) ?grow ?up ?step ?tail
                case step =>
                  simp only [List.take_succ_cons, List.take_zero]
                  refine HStepsA.cons ?_ ?_
                  · intro β f w' hb hβ hU
                    simp only [putAll, List.foldl_cons, List.foldl_nil]
                    go_frame
                    go_wp2_with ((with_reducible refine is_load 63 ?_); refine wp_loadT G1 x hpx (kx.keep hb) rfl ?_; go_frame)
                    exact ⟨rfl, _, rfl, Below.refl _ _, StepA.o (by decide) (rfl)⟩
                  refine HStepsA.cons ?_ ?_
                  · intro β f w' hb hβ hU
                    simp only [putAll, List.foldl_cons, List.foldl_nil]
                    go_frame
                    go_wp2_with fail
                    exact ⟨rfl, _, rfl, Below.refl _ _, StepA.o (by decide) (rfl)⟩
                  refine HStepsA.cons ?_ ?_
                  · intro β f w' hb hβ hU
                    obtain u1 : f 50 = .pointer (some ⟨GB, 0, none⟩) := hU.get ⟨1, .data⟩ (by simp) rfl
                    obtain ⟨z0, z1⟩ := (kb.keep hb).c2
                    have lb := (kb.keep hb).lt
                    simp only [putAll, List.foldl_cons, List.foldl_nil]
                    go_frame
                    try simp only [u1]
                    go_wp2_with fail
                    exact ⟨rfl, _, rfl, Below.refl _ _, StepA.o (by decide) (rfl)⟩
                  refine HStepsA.cons ?_ ?_
                  · intro β f w' hb hβ hU
                    simp only [putAll, List.foldl_cons, List.foldl_nil]
                    go_frame
                    go_wp2_with fail
                    exact ⟨rfl, _, rfl, Below.refl _ _, StepA.o (by decide) (rfl)⟩
                  refine HStepsA.cons ?_ ?_
                  · intro β f w' hb hβ hU
                    obtain u2 : f 51 = .slice (some ⟨bA, off, none⟩) m1 c1 := hU.get ⟨2, .data⟩ (by simp) rfl
                    obtain u3 : f 52 = .int .i64 (k : Int) := hU.get ⟨3, .data⟩ (by simp) rfl
                    simp only [putAll, List.foldl_cons, List.foldl_nil]
                    go_frame
                    try simp only [u2, u3]
                    go_wp2_with fail
                    exact ⟨rfl, _, rfl, Below.refl _ _, StepA.o (by decide) (rfl)⟩
                  refine HStepsA.cons ?_ ?_
                  · intro β f w' hb hβ hU
                    obtain u4 : f 53 = .pointer (some ⟨bA, off + k * 5, none⟩) := hU.get ⟨4, .data⟩ (by simp) rfl
                    have c0 := (hb.cell hbb).trans C0
                    have c1 := (hb.cell hbb).trans C1
                    have c2 := (hb.cell hbb).trans C2
                    have c3 := (hb.cell hbb).trans C3
                    have c4 := (hb.cell hbb).trans C4
                    simp only [putAll, List.foldl_cons, List.foldl_nil]
                    go_frame
                    try simp only [u4]
                    go_wp2_with fail
                    exact ⟨rfl, _, rfl, Below.refl _ _, StepA.o (by decide) (rfl)⟩
                  refine HStepsA.cons ?_ ?_
                  · intro β f w' hb hβ hU
                    obtain u0 : f 49 = x.val := hU.get ⟨0, .data⟩ (by simp) rfl
                    obtain u5 : f 54 = a.val := hU.get ⟨5, .data⟩ (by simp) rfl
                    simp only [putAll, List.foldl_cons, List.foldl_nil]
                    go_frame
                    try simp only [u0, u5]
                    go_wp2_with fail
                    refine (HDo.out β w' hb hβ).mono ?_
                    rintro e w3 ⟨nv, nD, nS, rfl, hY, b3⟩
                    go_wp2_with fail
                    exact ⟨rfl, _, rfl, b3, StepA.o (by decide) ⟨nv, nD, nS, rfl, hY⟩⟩
                  refine HStepsA.cons ?_ ?_
                  · intro β f w' hb hβ hU
                    obtain ⟨nv, nD, nS, u6, v6_0⟩ : ∃ (nv : StV), ∃ (nD : Dk), ∃ (nS : RS), f 55 = .tuple #[nv.val, .bool true] ∧ Sto F (k + 1) 0 q N (fun x => (x ≠ G1 ∧ x ≠ G2) ∧ β ≠ some x) w' nv nD nS := hU.get ⟨6, .data⟩ (by simp) rfl
                    simp only [putAll, List.foldl_cons, List.foldl_nil]
                    go_frame
                    try simp only [u6]
                    go_wp2_with fail
                    exact ⟨rfl, _, rfl, Below.refl _ _, StepA.o (by decide) ⟨nv, nD, nS, rfl, v6_0⟩⟩
                  refine HStepsA.cons ?_ ?_
                  · intro β f w' hb hβ hU
                    obtain ⟨nv, nD, nS, u7, v7_0⟩ : ∃ (nv : StV), ∃ (nD : Dk), ∃ (nS : RS), f 48 = .tuple #[nv.val, .bool true] ∧ Sto F (k + 1) 0 q N (fun x => (x ≠ G1 ∧ x ≠ G2) ∧ β ≠ some x) w' nv nD nS := hU.get ⟨7, .data⟩ (by simp) rfl
                    simp only [putAll, List.foldl_cons, List.foldl_nil]
                    go_frame
                    try simp only [u7]
                    go_wp2_with fail
                    exact ⟨rfl, _, rfl, Below.refl _ _, StepA.o (by decide) ⟨nv, nD, nS, rfl, v7_0⟩⟩
                  refine HStepsA.cons ?_ ?_
                  · intro β f w' hb hβ hU
                    obtain ⟨nv, nD, nS, u7, v7_0⟩ : ∃ (nv : StV), ∃ (nD : Dk), ∃ (nS : RS), f 48 = .tuple #[nv.val, .bool true] ∧ Sto F (k + 1) 0 q N (fun x => (x ≠ G1 ∧ x ≠ G2) ∧ β ≠ some x) w' nv nD nS := hU.get ⟨7, .data⟩ (by simp) rfl
                    simp only [putAll, List.foldl_cons, List.foldl_nil]
                    go_frame
                    try simp only [u7]
                    go_wp2_with fail
                    exact ⟨rfl, _, rfl, Below.refl _ _, StepA.o (by decide) (rfl)⟩
                  refine HStepsA.cons ?_ ?_
                  · intro β f w' hb hβ hU
                    simp only [putAll, List.foldl_cons, List.foldl_nil]
                    go_frame
                    go_wp2_with ((with_reducible refine is_alloc 63 ?_); refine wp_allocB _ arrSto ?_; intro w5 k5 b5 s5; go_frame)
                    exact ⟨rfl, _, rfl, b5, StepA.p s5 ⟨_, rfl, rfl, k5⟩⟩
                  exact HStepsA.nil
                case grow =>
                  intro β kq u wa wb hb hu
                  rcases kq with _ | _ | _ | _ | _ | _ | _ | _ | _ | _ | _ | kq
                  · exact hu
                  · exact hu
                  · exact hu
                  · exact hu
                  · exact hu
                  · exact hu
                  · obtain ⟨nv, nD, nS, ue, uf0⟩ := hu
                    exact ⟨nv, nD, nS, ue, uf0.keep hb⟩
                  · obtain ⟨nv, nD, nS, ue, uf0⟩ := hu
                    exact ⟨nv, nD, nS, ue, uf0.keep hb⟩
                  · obtain ⟨nv, nD, nS, ue, uf0⟩ := hu
                    exact ⟨nv, nD, nS, ue, uf0.keep hb⟩
                  · exact hu
                  · obtain ⟨b9, ue, uf0, uf1⟩ := hu
                    exact ⟨b9, ue, uf0, uf1.keep hb⟩
                  · trivial
                case up =>
                  intro kq u wa hu
                  rcases kq with _ | _ | _ | _ | _ | _ | _ | _ | _ | _ | _ | kq
                  · exact hu
                  · exact hu
                  · exact hu
                  · exact hu
                  · exact hu
                  · exact hu
                  · obtain ⟨nv, nD, nS, ue, uf0⟩ := hu
                    exact ⟨nv, nD, nS, ue, (uf0.lt.mono (fun x hx => ⟨hx.1.1, fun e => by cases e; exact Nat.lt_irrefl _ hx.2⟩))⟩
                  · obtain ⟨nv, nD, nS, ue, uf0⟩ := hu
                    exact ⟨nv, nD, nS, ue, (uf0.lt.mono (fun x hx => ⟨hx.1.1, fun e => by cases e; exact Nat.lt_irrefl _ hx.2⟩))⟩
                  · obtain ⟨nv, nD, nS, ue, uf0⟩ := hu
                    exact ⟨nv, nD, nS, ue, (uf0.lt.mono (fun x hx => ⟨hx.1.1, fun e => by cases e; exact Nat.lt_irrefl _ hx.2⟩))⟩
                  · exact hu
                  · obtain ⟨b9, ue, uf0, uf1⟩ := hu
                    cases uf0
                  · trivial
                case tail =>
                  intro bv f w7 hb7 hv1 hv2 hU
                  obtain ⟨nv, nD, nS, u8, v8_0⟩ : ∃ (nv : StV), ∃ (nD : Dk), ∃ (nS : RS), f 56 = nv.val ∧ Sto F (k + 1) 0 q N (fun x => (x ≠ G1 ∧ x ≠ G2) ∧ (some bv) ≠ some x) w7 nv nD nS := hU.get 8 (by decide)
                  obtain u9 : f 57 = .bool true := hU.get 9 (by decide)
                  obtain ⟨b9, u10, v10_0, v10_1⟩ : ∃ (b9 : Nat), f 9 = .pointer (some ⟨b9, 0, none⟩) ∧ (some bv) = some b9 ∧ Blk w7 b9 63 StV.zero.cs := hU.get 10 (by decide)
                  simp only [List.drop_succ_cons, List.drop_zero, putAll, List.foldl_cons, List.foldl_nil]
                  go_frame
                  simp only [u8, u9, u10]
                  clear u8 u9 u10
                  clear hU
                  obtain rfl := Option.some.inj v10_0
                  have hpn := v8_0.sim.pok
                  have HV8 := hid v8_0
                  have kX7 := kx.keep hb7
                  have kO7 := ky.keep hb7
                  have kb7 := kb.keep hb7
                  have HO7 := hid (HSy.out.lt.keep hb7)
                  have B7 := hbel.trans (hb7.mono hbel.size)
                  have lb7 := kb7.lt
                  have lX7 := kX7.lt
                  have hs7 := hbel.size
                  have hgw : w.heap.size ≤ bv := by omega
                  have hgG : w.heap.size ≤ G1 := by omega
                  have hbg : GB < wr.heap.size := kb.lt
                  clear HDo hb7 kx ky kb z0 z1 lb HSx HSy hbel C0 C1 C2 C3 C4 hbb v8_0
                  go_wp2_with ((with_reducible refine is_store 63 ?_); refine wp_storeT bv _ nv hpn v10_1 (by rw [StV.cs_len Pgr.zero_ok]) rfl rfl ?_; intro w8 k8 r8; go_frame)
                  refine noPanic_ok ?_
                  have kX8 := kX7.grown r8 (by simp; omega)
                  have kO8 := kO7.grown r8 (by simp; omega)
                  have kb8 := kb7.grown r8 (by simp; omega)
                  have B8 := B7.grown r8 B7.size (fun z hz => by cases hz; exact hgw)
                  have HN8 := hid (HV8.out.var r8 v10_1 notSto (fun h => h.2 rfl))
                  have HO8 := hid (HO7.out.var r8 v10_1 notSto (fun h => by have := h.2; omega))
                  clear kX7 kO7 kb7 HO7 B7 HV8 r8 v10_1 lb7 lX7
                  have l8 := k8.lt
                  go_wp2_with (first
                    | ((with_reducible refine is_load 63 ?_); refine wp_loadT bv nv hpn k8 rfl ?_; go_frame)
                    | ((with_reducible refine is_store 63 ?_); refine wp_storeT G1 _ nv hpn kX8 (StV.cs_len hpx) rfl rfl ?_; intro w9 kN r9; go_frame))
                  have kO := kO8.grown r9 (by simp; omega)
                  have kb9 := kb8.grown r9 (by simp; omega)
                  have B9 := B8.grown r9 B8.size (fun z hz => by cases hz; exact hgG)
                  have HN := hid ((HN8.out.var r9 kX8 notSto (fun h => by have := h.1; omega)).mono (fun b hb => hb.1))
                  have HO := hid ((HO8.out.var r9 kX8 notSto (fun h => by have := h.1; omega)).mono (fun b hb => hb.1))
                  go_meet
                  case rel => exact ⟨rfl, _, _, _, kN, kO, kb9, HN, HO, B9⟩

              · have tl : ¬ (k : Int) < (m1 : Int) := by omega
                go_wp2_with fail
                go_meet
                case rel => exact ⟨rfl, x, D, S, kx, ky, kb, hid (HSx.out.up (Nat.le_succ k)), HSy, hbel⟩
            case rest =>
              clear z0 z1 lb kx ky kb HSx HSy hbel hpx
              obtain ⟨rfl, x, D, S, kx, ky, kb, HSx, HSy, hbel⟩ := hcut
              have hpx := HSx.out.sim.pok
              obtain ⟨z0, z1⟩ := kb.c2
              have lb := kb.lt
              go_upto_if 67 with fail
              by_cases hl : k < m2
              · have tl : (k : Int) < (m2 : Int) := by omega
                obtain ⟨bA, off, a, rfl, hbb, hx, hcell⟩ := (HG2.out.2.1.below hbel).el (f := Ac.cs) (fun _ => rfl) hl (by omega)
                have C0 := hcell 0 _ rfl
                have C1 := hcell 1 _ rfl
                have C2 := hcell 2 _ rfl
                have C3 := hcell 3 _ rfl
                have C4 := hcell 4 _ rfl
                rw [Nat.add_zero] at C0
                have hmem := List.mem_of_getElem? hx
                have HA := hid (And.intro (HG2.out.2.2.1 a hmem) (HF2.out.2 a hmem))
                clear hcell hx hmem
                have lx := kx.lt
                have ly := ky.lt
                have HDo := hid (fun (β : Option Nat) wx (hb : Below wc.heap.size wc wx) (hβ : ∀ b, β = some b → wc.heap.size ≤ b ∧ b < wx.heap.size) => do_any (M := fun x => (x ≠ G1 ∧ x ≠ G2) ∧ β ≠ some x) y a E T wx (HTb.out.keep (hbel.trans (hb.mono hbel.size))) ((HSy.out.lt.mono (fun b hh => ⟨hh.1, fun e => by have := (hβ _ e).1; omega⟩)).keep hb) (fun b hh => by have h5 := hb.size; exact ⟨⟨by omega, by omega⟩, fun e => by have := (hβ _ e).2; omega⟩) (by omega) HA.out.1 HA.out.2)
                go_wp2_with fail
                have hdec : decide (k < m2) = true := decide_eq_true hl
                try rw [hdec]
                refine wp_region_headAF 102 11 10 [69, 70, 71, 72, 73, 74, 75, 68, 76, 77, 11] [9] (fun β kq => ([fun u w' => u = y.val, fun u w' => u = .pointer (some ⟨GB, 1, none⟩), fun u w' => u = .slice (some ⟨bA, off, none⟩) m2 c2, fun u w' => u = .int .i64 (k : Int), fun u w' => u = .pointer (some ⟨bA, off + k * 5, none⟩), fun u w' => u = a.val, fun u w' => ∃ (nv : StV), ∃ (nD : Dk), ∃ (nS : RS), u = .tuple #[nv.val, .bool true] ∧ Sto F (k + 1) 0 q N (fun x => (x ≠ G1 ∧ x ≠ G2) ∧ β ≠ some x) w' nv nD nS, fun u w' => ∃ (nv : StV), ∃ (nD : Dk), ∃ (nS : RS), u = .tuple #[nv.val, .bool true] ∧ Sto F (k + 1) 0 q N (fun x => (x ≠ G1 ∧ x ≠ G2) ∧ β ≠ some x) w' nv nD nS, fun u w' => ∃ (nv : StV), ∃ (nD : Dk), ∃ (nS : RS), u = nv.val ∧ Sto F (k + 1) 0 q N (fun x => (x ≠ G1 ∧ x ≠ G2) ∧ β ≠ some x) w' nv nD nS, fun u w' => u = .bool true, fun u w' => ∃ (b9 : Nat), u = .pointer (some ⟨b9, 0, none⟩) ∧ β = some b9 ∧ Blk w' b9 63 StV.zero.cs] : List (Value → World → Prop)).getD kq (fun _ _ => True)) (by kernel_rfl) rfl (by kernel_rfl) (by decide) ?grow ?up ?step ?tail
                case step =>
                  simp only [List.take_succ_cons, List.take_zero]
                  refine HStepsA.cons ?_ ?_
                  · intro β f w' hb hβ hU
                    simp only [putAll, List.foldl_cons, List.foldl_nil]
                    go_frame
                    go_wp2_with ((with_reducible refine is_load 63 ?_); refine wp_loadT G2 y hpy (ky.keep hb) rfl ?_; go_frame)
                    exact ⟨rfl, _, rfl, Below.refl _ _, StepA.o (by decide) (rfl)⟩
                  refine HStepsA.cons ?_ ?_
                  · intro β f w' hb hβ hU
                    simp only [putAll, List.foldl_cons, List.foldl_nil]
                    go_frame
                    go_wp2_with fail
                    exact ⟨rfl, _, rfl, Below.refl _ _, StepA.o (by decide) (rfl)⟩
                  refine HStepsA.cons ?_ ?_
                  · intro β f w' hb hβ hU
                    obtain u1 : f 70 = .pointer (some ⟨GB, 1, none⟩) := hU.get ⟨1, .data⟩ (by simp) rfl
                    obtain ⟨z0, z1⟩ := (kb.keep hb).c2
                    have lb := (kb.keep hb).lt
                    simp only [putAll, List.foldl_cons, List.foldl_nil]
                    go_frame
                    try simp only [u1]
                    go_wp2_with fail
                    exact ⟨rfl, _, rfl, Below.refl _ _, StepA.o (by decide) (rfl)⟩
                  refine HStepsA.cons ?_ ?_
                  · intro β f w' hb hβ hU
                    simp only [putAll, List.foldl_cons, List.foldl_nil]
                    go_frame
                    go_wp2_with fail
                    exact ⟨rfl, _, rfl, Below.refl _ _, StepA.o (by decide) (rfl)⟩
                  refine HStepsA.cons ?_ ?_
                  · intro β f w' hb hβ hU
                    obtain u2 : f 71 = .slice (some ⟨bA, off, none⟩) m2 c2 := hU.get ⟨2, .data⟩ (by simp) rfl
                    obtain u3 : f 72 = .int .i64 (k : Int) := hU.get ⟨3, .data⟩ (by simp) rfl
                    simp only [putAll, List.foldl_cons, List.foldl_nil]
                    go_frame
                    try simp only [u2, u3]
                    go_wp2_with fail
                    exact ⟨rfl, _, rfl, Below.refl _ _, StepA.o (by decide) (rfl)⟩
                  refine HStepsA.cons ?_ ?_
                  · intro β f w' hb hβ hU
                    obtain u4 : f 73 = .pointer (some ⟨bA, off + k * 5, none⟩) := hU.get ⟨4, .data⟩ (by simp) rfl
                    have c0 := (hb.cell hbb).trans C0
                    have c1 := (hb.cell hbb).trans C1
                    have c2 := (hb.cell hbb).trans C2
                    have c3 := (hb.cell hbb).trans C3
                    have c4 := (hb.cell hbb).trans C4
                    simp only [putAll, List.foldl_cons, List.foldl_nil]
                    go_frame
                    try simp only [u4]
                    go_wp2_with fail
                    exact ⟨rfl, _, rfl, Below.refl _ _, StepA.o (by decide) (rfl)⟩
                  refine HStepsA.cons ?_ ?_
                  · intro β f w' hb hβ hU
                    obtain u0 : f 69 = y.val := hU.get ⟨0, .data⟩ (by simp) rfl
                    obtain u5 : f 74 = a.val := hU.get ⟨5, .data⟩ (by simp) rfl
                    simp only [putAll, List.foldl_cons, List.foldl_nil]
                    go_frame
                    try simp only [u0, u5]
                    go_wp2_with fail
                    refine (HDo.out β w' hb hβ).mono ?_
                    rintro e w3 ⟨nv, nD, nS, rfl, hY, b3⟩
                    go_wp2_with fail
                    exact ⟨rfl, _, rfl, b3, StepA.o (by decide) ⟨nv, nD, nS, rfl, hY⟩⟩
                  refine HStepsA.cons ?_ ?_
                  · intro β f w' hb hβ hU
                    obtain ⟨nv, nD, nS, u6, v6_0⟩ : ∃ (nv : StV), ∃ (nD : Dk), ∃ (nS : RS), f 75 = .tuple #[nv.val, .bool true] ∧ Sto F (k + 1) 0 q N (fun x => (x ≠ G1 ∧ x ≠ G2) ∧ β ≠ some x) w' nv nD nS := hU.get ⟨6, .data⟩ (by simp) rfl
                    simp only [putAll, List.foldl_cons, List.foldl_nil]
                    go_frame
                    try simp only [u6]
                    go_wp2_with fail
                    exact ⟨rfl, _, rfl, Below.refl _ _, StepA.o (by decide) ⟨nv, nD, nS, rfl, v6_0⟩⟩
                  refine HStepsA.cons ?_ ?_
                  · intro β f w' hb hβ hU
                    obtain ⟨nv, nD, nS, u7, v7_0⟩ : ∃ (nv : StV), ∃ (nD : Dk), ∃ (nS : RS), f 68 = .tuple #[nv.val, .bool true] ∧ Sto F (k + 1) 0 q N (fun x => (x ≠ G1 ∧ x ≠ G2) ∧ β ≠ some x) w' nv nD nS := hU.get ⟨7, .data⟩ (by simp) rfl
                    simp only [putAll, List.foldl_cons, List.foldl_nil]
                    go_frame
                    try simp only [u7]
                    go_wp2_with fail
                    exact ⟨rfl, _, rfl, Below.refl _ _, StepA.o (by decide) ⟨nv, nD, nS, rfl, v7_0⟩⟩
                  refine HStepsA.cons ?_ ?_
                  · intro β f w' hb hβ hU
                    obtain ⟨nv, nD, nS, u7, v7_0⟩ : ∃ (nv : StV), ∃ (nD : Dk), ∃ (nS : RS), f 68 = .tuple #[nv.val, .bool true] ∧ Sto F (k + 1) 0 q N (fun x => (x ≠ G1 ∧ x ≠ G2) ∧ β ≠ some x) w' nv nD nS := hU.get ⟨7, .data⟩ (by simp) rfl
                    simp only [putAll, List.foldl_cons, List.foldl_nil]
                    go_frame
                    try simp only [u7]
                    go_wp2_with fail
                    exact ⟨rfl, _, rfl, Below.refl _ _, StepA.o (by decide) (rfl)⟩
                  refine HStepsA.cons ?_ ?_
                  · intro β f w' hb hβ hU
                    simp only [putAll, List.foldl_cons, List.foldl_nil]
                    go_frame
                    go_wp2_with ((with_reducible refine is_alloc 63 ?_); refine wp_allocB _ arrSto ?_; intro w5 k5 b5 s5; go_frame)
                    exact ⟨rfl, _, rfl, b5, StepA.p s5 ⟨_, rfl, rfl, k5⟩⟩
                  exact HStepsA.nil
                case grow =>
                  intro β kq u wa wb hb hu
                  rcases kq with _ | _ | _ | _ | _ | _ | _ | _ | _ | _ | _ | kq
                  · exact hu
                  · exact hu
                  · exact hu
                  · exact hu
                  · exact hu
                  · exact hu
                  · obtain ⟨nv, nD, nS, ue, uf0⟩ := hu
                    exact ⟨nv, nD, nS, ue, uf0.keep hb⟩
                  · obtain ⟨nv, nD, nS, ue, uf0⟩ := hu
                    exact ⟨nv, nD, nS, ue, uf0.keep hb⟩
                  · obtain ⟨nv, nD, nS, ue, uf0⟩ := hu
                    exact ⟨nv, nD, nS, ue, uf0.keep hb⟩
                  · exact hu
                  · obtain ⟨b9, ue, uf0, uf1⟩ := hu
                    exact ⟨b9, ue, uf0, uf1.keep hb⟩
                  · trivial
                case up =>
                  intro kq u wa hu
                  rcases kq with _ | _ | _ | _ | _ | _ | _ | _ | _ | _ | _ | kq
                  · exact hu
                  · exact hu
                  · exact hu
                  · exact hu
                  · exact hu
                  · exact hu
                  · obtain ⟨nv, nD, nS, ue, uf0⟩ := hu
                    exact ⟨nv, nD, nS, ue, (uf0.lt.mono (fun x hx => ⟨hx.1.1, fun e => by cases e; exact Nat.lt_irrefl _ hx.2⟩))⟩
                  · obtain ⟨nv, nD, nS, ue, uf0⟩ := hu
                    exact ⟨nv, nD, nS, ue, (uf0.lt.mono (fun x hx => ⟨hx.1.1, fun e => by cases e; exact Nat.lt_irrefl _ hx.2⟩))⟩
                  · obtain ⟨nv, nD, nS, ue, uf0⟩ := hu
                    exact ⟨nv, nD, nS, ue, (uf0.lt.mono (fun x hx => ⟨hx.1.1, fun e => by cases e; exact Nat.lt_irrefl _ hx.2⟩))⟩
                  · exact hu
                  · obtain ⟨b9, ue, uf0, uf1⟩ := hu
                    cases uf0
                  · trivial
                case tail =>
                  intro bv f w7 hb7 hv1 hv2 hU
                  obtain ⟨nv, nD, nS, u8, v8_0⟩ : ∃ (nv : StV), ∃ (nD : Dk), ∃ (nS : RS), f 76 = nv.val ∧ Sto F (k + 1) 0 q N (fun x => (x ≠ G1 ∧ x ≠ G2) ∧ (some bv) ≠ some x) w7 nv nD nS := hU.get 8 (by decide)
                  obtain u9 : f 77 = .bool true := hU.get 9 (by decide)
                  obtain ⟨b9, u10, v10_0, v10_1⟩ : ∃ (b9 : Nat), f 11 = .pointer (some ⟨b9, 0, none⟩) ∧ (some bv) = some b9 ∧ Blk w7 b9 63 StV.zero.cs := hU.get 10 (by decide)
                  simp only [List.drop_succ_cons, List.drop_zero, putAll, List.foldl_cons, List.foldl_nil]
                  go_frame
                  simp only [u8, u9, u10]
                  clear u8 u9 u10
                  clear hU
                  obtain rfl := Option.some.inj v10_0
                  have hpn := v8_0.sim.pok
                  have HV8 := hid v8_0
                  have kX7 := ky.keep hb7
                  have kO7 := kx.keep hb7
                  have kb7 := kb.keep hb7
                  have HO7 := hid (HSx.out.lt.keep hb7)
                  have B7 := hbel.trans (hb7.mono hbel.size)
                  have lb7 := kb7.lt
                  have lX7 := kX7.lt
                  have hs7 := hbel.size
                  have hgw : w.heap.size ≤ bv := by omega
                  have hgG : w.heap.size ≤ G2 := by omega
                  have hbg : GB < wc.heap.size := kb.lt
                  clear HDo hb7 kx ky kb z0 z1 lb HSx HSy hbel C0 C1 C2 C3 C4 hbb v8_0
                  go_wp2_with ((with_reducible refine is_store 63 ?_); refine wp_storeT bv _ nv hpn v10_1 (by rw [StV.cs_len Pgr.zero_ok]) rfl rfl ?_; intro w8 k8 r8; go_frame)
                  refine noPanic_ok ?_
                  have kX8 := kX7.grown r8 (by simp; omega)
                  have kO8 := kO7.grown r8 (by simp; omega)
                  have kb8 := kb7.grown r8 (by simp; omega)
                  have B8 := B7.grown r8 B7.size (fun z hz => by cases hz; exact hgw)
                  have HN8 := hid (HV8.out.var r8 v10_1 notSto (fun h => h.2 rfl))
                  have HO8 := hid (HO7.out.var r8 v10_1 notSto (fun h => by have := h.2; omega))
                  clear kX7 kO7 kb7 HO7 B7 HV8 r8 v10_1 lb7 lX7
                  have l8 := k8.lt
                  go_wp2_with (first
                    | ((with_reducible refine is_load 63 ?_); refine wp_loadT bv nv hpn k8 rfl ?_; go_frame)
                    | ((with_reducible refine is_store 63 ?_); refine wp_storeT G2 _ nv hpn kX8 (StV.cs_len hpy) rfl rfl ?_; intro w9 kN r9; go_frame))
                  have kO := kO8.grown r9 (by simp; omega)
                  have kb9 := kb8.grown r9 (by simp; omega)
                  have B9 := B8.grown r9 B8.size (fun z hz => by cases hz; exact hgG)
                  have HN := hid ((HN8.out.var r9 kX8 notSto (fun h => by have := h.1; omega)).mono (fun b hb => hb.1))
                  have HO := hid ((HO8.out.var r9 kX8 notSto (fun h => by have := h.1; omega)).mono (fun b hb => hb.1))
                  go_roundw
                  case measure => simp [intOf]; omega
                  case rel => exact ⟨k + 1, x, D, S, nv, nD, nS, by omega, rfl, by go_num, kO, kN, kb9, HO, HN, B9⟩

              · have tl : ¬ (k : Int) < (m2 : Int) := by omega
                go_wp2_with fail
                go_roundw
                case measure => simp [intOf]; omega
                case rel => exact ⟨k + 1, x, D, S, y, E, T, by omega, rfl, by go_num, kx, ky, kb, HSx, hid (HSy.out.up (Nat.le_succ k)), hbel⟩
          · obtain rfl : k = mm := by omega
            go_wp2_with fail
            refine (awake_any _ (HTb.out.keep hbel)).mono ?_
            rintro e wA ⟨rfl, bA⟩
            have BA := hbel.trans (bA.mono hbel.size)
            have kxA := kx.keep bA
            have kyA := ky.keep bA
            have HSxA := hid (HSx.out.keep bA)
            have HSyA := hid (HSy.out.keep bA)
            clear kx ky kb HSx HSy bA hbel
            have lxA := kxA.lt
            go_wp2_with (first
              | ((with_reducible refine is_load 37 ?_); refine wp_loadTPg G1 x hpx kxA rfl rfl ?_; go_frame)
              | ((with_reducible refine is_load 60 ?_); refine wp_loadTVg G1 x hpx kxA rfl rfl ?_; go_frame))
            refine (is_any x.p x.v D S _ (HTb.out.keep BA) HSxA.out.sim HSxA.out.d HSxA.out.v).mono ?_
            rintro e wC ⟨rfl, bC⟩
            have BC := BA.trans (bC.mono BA.size)
            have kyC := kyA.keep bC
            have HSyC := hid (HSyA.out.keep bC)
            clear bC BA kxA kyA HSxA HSyA lxA
            have lyC := kyC.lt
            go_wp2_with (first
              | ((with_reducible refine is_load 37 ?_); refine wp_loadTPg G2 y hpy kyC rfl rfl ?_; go_frame)
              | ((with_reducible refine is_load 60 ?_); refine wp_loadTVg G2 y hpy kyC rfl rfl ?_; go_frame))
            refine (is_any y.p y.v E T _ (HTb.out.keep BC) HSyC.out.sim HSyC.out.d HSyC.out.v).mono ?_
            rintro e wD ⟨rfl, bD⟩
            go_wp2_with fail
            go_ret
            exact ⟨rfl, BC.trans (bD.mono BC.size)⟩
end Go.Proofs.YtanglofabkbllaaDoor

