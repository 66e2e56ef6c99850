/- The walk of PagerInside. Conditions: the table of remainders is laid; the arguments read. -/
import Derived.Test.YtanglofabkbllaaDoorLaw
import Derived.Test.YtanglofabkbllaaDoorHeadA
set_option linter.unusedSimpArgs false
set_option linter.unusedVariables false
namespace Go.Proofs.YtanglofabkbllaaDoor
open Go.RowKit

/-- the sectors that a law marks, behind k of its five writes -/
def mks (e sc : Nat) (D : Dk) : List Nat → Dk
  | [] => D
  | i :: l => mks e sc (if i < sc ∨ e ≤ i then D.write i (rep 128 7) else D) l
theorem mks_n (e sc : Nat) : ∀ (l : List Nat) (D : Dk), (mks e sc D l).n = D.n
  | [], _ => rfl
  | i :: l, D => by
    unfold mks
    rw [mks_n e sc l]
    split <;> rfl
theorem mks_W (e sc : Nat) : ∀ (l : List Nat) (D : Dk), (mks e sc D l).W.length ≤ D.W.length + l.length
  | [], _ => Nat.le_refl _
  | i :: l, D => by
    unfold mks
    refine Nat.le_trans (mks_W e sc l _) ?_
    split
    · show D.W.length + 1 + l.length ≤ _
      rw [List.length_cons]; omega
    · rw [List.length_cons]; omega
theorem mks_keep (e sc : Nat) : ∀ (l : List Nat) (D : Dk) (j : Nat), D.cur j = rep 128 7 → (mks e sc D l).cur j = rep 128 7
  | [], _, _, h => h
  | i :: l, D, j, h => by
    unfold mks
    refine mks_keep e sc l _ j ?_
    split
    · show upd D.cur i (rep 128 7) j = _
      unfold upd
      split
      · rfl
      · exact h
    · exact h
theorem mks_in (e sc : Nat) : ∀ (l : List Nat) (D : Dk) (j : Nat), j ∈ l → (j < sc ∨ e ≤ j) → (mks e sc D l).cur j = rep 128 7
  | i :: l, D, j, hj, hr => by
    unfold mks
    by_cases h : j = i
    · subst h
      refine mks_keep e sc l _ j ?_
      rw [if_pos hr]
      show upd D.cur j (rep 128 7) j = _
      unfold upd
      rw [if_pos rfl]
    · exact mks_in e sc l _ j ((List.mem_cons.1 hj).resolve_left h) hr

theorem mks_snoc (e sc i : Nat) : ∀ (l : List Nat) (D : Dk), mks e sc D (l ++ [i]) = if i < sc ∨ e ≤ i then (mks e sc D l).write i (rep 128 7) else mks e sc D l
  | [], D => by
    show mks e sc (if i < sc ∨ e ≤ i then D.write i (rep 128 7) else D) [] = _
    rfl
  | j :: l, D => by
    rw [List.cons_append]
    unfold mks
    exact mks_snoc e sc i l _
theorem Sim.cur_out {F : Secs} {p : Pgr} {D : Dk} {S : RS} {k : Nat} (h : Sim F p D S k) (i : Nat) (hi : i < p.sec ∨ p.sec + 8 * (S.n + 2) ≤ i) : D.cur i = F i := by
  rw [← h.out i hi]
  refine cur_not D i fun x hx e => ?_
  obtain ⟨id, h1, h2, h3, h4, h5⟩ := h.syn x hx
  omega
theorem notDisk : ¬ dkT 27 := by unfold dkT; decide

set_option maxRecDepth 100000 in
set_option maxHeartbeats 16000000 in
theorem inside_walk (n0 s0 : Nat) (A : Option Addr) (m c : Nat) (X : List Ac) (w : World) (hT : Tab w) (hn0 : n0 ≤ 255) (hs0 : s0 ≤ 255) (hX : X.length = m) (hr : RL w 5 A m (X.flatMap Ac.cs)) (hok : ∀ x ∈ X, x.ok) (hmc : m ≤ c) (hcm : c ≤ 9223372036854775807) :
    Calls Tryd.prog 4 #[.int .u8 n0, .int .u8 s0, .slice A m c] w fun e w' => e = .returned (.bool true) ∧ Below w.heap.size w w' := by
  have HTb := hid hT
  have HR := hid hr
  have HX := hid hX
  have HOK := hid hok
  have FW := few_any A m c X w hX hr hmc hcm
  clear hT hr hX hok
  go_enter Tryd.func4, Tryd.ntmps4
  go_wp2_with fail
  cases hf : fewB X with
  | false =>
    rw [hf] at FW
    refine FW.mono ?_
    rintro e w1 ⟨rfl, B⟩
    go_wp2_with fail
    refine (awake_any w1 (HTb.out.keep B)).mono ?_
    rintro e w2 ⟨rfl, b2⟩
    go_wp2_with fail
    go_ret
    exact ⟨rfl, B.trans (b2.mono B.size)⟩
  | true =>
    rw [hf] at FW
    have HF := hid (few_yes hf)
    refine FW.mono ?_
    rintro e w1 ⟨rfl, B⟩
    clear FW hf
    obtain ⟨nn, hnn⟩ : ∃ z, n0 % 6 = z := ⟨_, rfl⟩
    have q1 : (n0 : Int).tmod 6 = (nn : Int) := by rw [Int.tmod_eq_emod_of_nonneg (by omega)]; omega
    have h1 : nn < 6 := by omega
    clear hnn
    obtain ⟨q, hq⟩ : ∃ z, nn + 1 = z := ⟨_, rfl⟩
    have q3 := IntWalk.i64_in (nn : Int) (by omega)
    have q4 : (nn : Int) + 1 = (q : Int) := by omega
    have q5 := IntWalk.i64_in (q : Int) (by omega)
    have hq1 : 1 ≤ q ∧ q ≤ 6 := by omega
    clear hq h1
    obtain ⟨sc, hsc⟩ : ∃ z, s0 % 4 = z := ⟨_, rfl⟩
    have q2 : (s0 : Int).tmod 4 = (sc : Int) := by rw [Int.tmod_eq_emod_of_nonneg (by omega)]; omega
    have h2 : sc < 4 := by omega
    clear hsc
    have q6 := IntWalk.i64_in (sc : Int) (by omega)
    obtain ⟨ed, hed⟩ : ∃ z, sc + 8 * (q + 2) = z := ⟨_, rfl⟩
    have p1 := IntWalk.i64_in ((q : Int) + 2) (by omega)
    have p2 := IntWalk.i64_in (8 * ((q : Int) + 2)) (by omega)
    have p3 : (sc : Int) + 8 * ((q : Int) + 2) = (ed : Int) := by omega
    have p4 := IntWalk.i64_in (ed : Int) (by omega)
    obtain ⟨e1, he1⟩ : ∃ z, ed + 1 = z := ⟨_, rfl⟩
    have p5 := IntWalk.i64_in (e1 : Int) (by omega)
    have p8 : (ed : Int) + 1 = (e1 : Int) := by omega
    obtain ⟨e2, he2⟩ : ∃ z, ed + 2 = z := ⟨_, rfl⟩
    have p6 : (ed : Int) + 2 = (e2 : Int) := by omega
    have p7 := IntWalk.i64_in (e2 : Int) (by omega)
    have HED := hid (And.intro hed (And.intro he2 he1))
    have hedl : 24 ≤ ed ∧ ed ≤ 67 := by omega
    clear hed he2 he1
    have hm30 := HF.out.1
    rw [HX.out] at hm30
    go_wp2_with fail
    refine (new_ok e2 w1 (by have := HED.out; omega) (by have := HED.out; omega)).mono ?_
    rintro e w2 ⟨rfl, b2⟩
    have hd2 := DkV.new w2 e2 (by have := HED.out; omega)
    have B2 := B.trans (b2.mono B.size)
    obtain ⟨d0, hd00⟩ : ∃ z : DV, z = ⟨e2, none, none, none, 0⟩ := ⟨_, rfl⟩
    rw [← hd00] at hd2 ⊢
    clear b2 B hd00
    have hgz := B2.size
    unfold DV.v
    go_wp2_with (first
      | ((with_reducible refine is_alloc 27 ?_); refine wp_allocB (w := w2) _ arrDisk ?_; intro w3 k3 b3 s3; go_frame)
      | ((with_reducible refine is_store 27 ?_); refine wp_storeB w2.heap.size _ _ d0.cs k3 diskN rfl (dv_one _) rfl rfl ?_; intro w4 k4 r4; go_frame))
    have ba : Below w2.heap.size w2 w4 := b3.grown r4 b3.size (fun z hz => by cases hz; exact Nat.le_refl _)
    have hd4 := hd2.keep ba
    have B4 := B2.trans (ba.mono B2.size)
    clear b3 s3 k3 r4 ba B2 hd2
    generalize w2.heap.size = G10 at *
    have R := bytesOf_any 128 7 w4 (by omega) (by omega)
    rw [show ((128 : Nat) : Int) = 128 from rfl, show ((7 : Nat) : Int) = 7 from rfl] at R
    refine R.mono ?_
    clear R
    rintro e w5 ⟨gm, rfl, hg1, hg2, hbr, b5⟩
    have hd5 := hd4.keep b5
    have k5 := k4.keep b5
    have B5 := B4.trans (b5.mono B4.size)
    have hgm : G10 < gm := by have := k4.lt; omega
    clear hd4 k4 b5 B4 hg1
    have hs5 := B5.size
    go_wp2_with fail
    have ba : Below w5.heap.size w5 (w5.alloc (.cells #[.int .i64 (ed : Int), .int .i64 (e1 : Int), .int .i64 0, .int .i64 1, .int .i64 2] 3)) := (Below.refl _ _).alloc (Nat.le_refl _) _
    have kl : Blk (w5.alloc (.cells #[.int .i64 (ed : Int), .int .i64 (e1 : Int), .int .i64 0, .int .i64 1, .int .i64 2] 3)) w5.heap.size 3 ([ed, e1, 0, 1, 2].map intV) := Blk.new w5 _ _
    obtain ⟨wa, hwa⟩ : ∃ z, w5.alloc (.cells #[.int .i64 (ed : Int), .int .i64 (e1 : Int), .int .i64 0, .int .i64 1, .int .i64 2] 3) = z := ⟨_, rfl⟩
    rw [hwa] at ba kl ⊢
    clear hwa
    have hda := hd5.keep ba
    have ka := k5.keep ba
    have Ba := B5.trans (ba.mono B5.size)
    have hba := RL.below hbr ba
    have hGl : G10 < w5.heap.size := k5.lt
    clear hd5 k5 B5 hbr ba hg2
    generalize w5.heap.size = gl at *
    obtain ⟨Lv, hLv⟩ : ∃ z, [ed, e1, 0, 1, 2] = z := ⟨_, rfl⟩
    have hLm : ∀ v ∈ Lv, v < e2 := by
      intro v hv
      rw [← hLv] at hv
      have := HED.out
      simp only [List.mem_cons, List.not_mem_nil, or_false] at hv
      omega
    have hLi : ∀ j, j < e2 → (j < sc ∨ ed ≤ j) → j ∈ Lv := by
      intro j h3 h4
      rw [← hLv]
      have := HED.out
      simp only [List.mem_cons, List.not_mem_nil, or_false]
      omega
    have hLl : Lv.length = 5 := by rw [← hLv]; rfl
    rw [hLv] at kl
    clear hLv
    have HL := hid (And.intro hLm (And.intro hLi hLl))
    clear hLm hLi hLl
    go_loopw [51] (fun i wr => ∃ (k : Nat) (d : DV), k ≤ 5 ∧ i = .int .i64 k ∧ Blk wr G10 27 d.cs ∧ DkV wr d (mks ed sc (Dk.new e2) (Lv.take k)) ∧ RB wr (some ⟨gm, 0, none⟩) 128 (rep 128 7) ∧ Blk wr gl 3 (Lv.map intV) ∧ Below w.heap.size w wr) (fun i _ => 5 - (intOf i).toNat)
    case atStart => exact ⟨0, d0, Nat.zero_le _, rfl, ka, hda, hba, kl, Ba⟩
    case round =>
      clear ka hda hba kl Ba
      obtain ⟨k, d, hk, rfl, kd, hd, hbm, kl, hbel⟩ := hrel
      by_cases hlt : k < 5
      · obtain ⟨v, hv⟩ : ∃ v, Lv[k]? = some v := ⟨_, List.getElem?_eq_getElem (by rw [HL.out.2.2]; exact hlt)⟩
        have hcl := kl.cell k
        rw [List.getElem?_map, hv] at hcl
        have hve := HL.out.1 v (List.mem_of_getElem? hv)
        have HN := hid (show mks ed sc (Dk.new e2) (Lv.take (k + 1)) = if v < sc ∨ ed ≤ v then (mks ed sc (Dk.new e2) (Lv.take k)).write v (rep 128 7) else mks ed sc (Dk.new e2) (Lv.take k) by rw [List.take_add_one, hv]; exact mks_snoc ed sc v _ _)
        have hDn : (mks ed sc (Dk.new e2) (Lv.take k)).n = e2 := mks_n _ _ _ _
        have hDW : (mks ed sc (Dk.new e2) (Lv.take k)).W.length ≤ 5 := Nat.le_trans (mks_W _ _ _ _) (by show 0 + _ ≤ 5; rw [List.length_take]; omega)
        replace hcl : wr.cell? ⟨gl, k, none⟩ = some (.int .i64 (v : Int)) := hcl
        generalize mks ed sc (Dk.new e2) (Lv.take k) = DM at hd HN hDn hDW
        clear hv
        have ll := kl.lt
        obtain ⟨x0, x1, x2, x3, x4⟩ := kd.c5
        have ld := kd.lt
        have tk : (k : Int) < 5 := by omega
        by_cases hw : v < sc ∨ ed ≤ v
        · rw [if_pos hw] at HN
          have HW := hid (fun wx (hb : Below wr.heap.size wr wx) => write_good d DM (some ⟨gm, 0, none⟩) 128 (rep 128 7) v wx (hd.keep hb) (by omega) (RL.below hbm hb) (by omega))
          generalize DM.write v (rep 128 7) = DN at HN HW
          clear hd hDn hDW
          have fin : ∀ (wx : World) (dx : DV), Below wr.heap.size wr wx → DkV wx dx DN → ∃ wy, True := fun wx dx h1 h2 => ⟨wx, trivial⟩
          clear fin
          go_upto_region 10 with fail
          go_cut [62] (fun a wx => a = .bool true ∧ wx = wr)
          case first =>
            by_cases hv1 : v < sc
            · have t1 : (v : Int) < (sc : Int) := by omega
              go_wp2_with fail
              go_meet
              case rel => exact ⟨rfl, rfl⟩
            · have t1 : ¬ (v : Int) < (sc : Int) := by omega
              have t2 : (v : Int) ≥ (ed : Int) := by omega
              go_wp2_with fail
              go_meet
              case rel => exact ⟨rfl, rfl⟩
          case rest =>
            obtain ⟨rfl, rfl⟩ := hcut
            go_wp2_with fail
            refine (HW.out _ (Below.refl _ _)).mono ?_
            rintro e wb ⟨dx, rfl, hdx, bb⟩
            have kdb := kd.keep bb
            have klb := kl.keep bb
            have hbb := RL.below hbm bb
            have Bb := hbel.trans (bb.mono hbel.size)
            clear x0 x1 x2 x3 x4 ld ll kd kl hbm hbel bb HW hcl
            go_wp2_with ((with_reducible refine is_store 27 ?_); refine wp_storeB G10 _ _ dx.cs kdb diskN rfl (dv_one _) rfl rfl ?_; intro wd kdd rd; go_frame)
            have hdd := hdx.kept (Kept.grown rd kdb notDisk)
            have kld := klb.grown rd (by simp; omega)
            have hbd := RL.grown hbb rd (fun q hq _ b' o' hb' => by cases hq; cases hb'; omega)
            have Bd := Bb.grown rd Bb.size (fun z hz => by cases hz; exact hgz)
            go_roundw
            case measure => simp [intOf]; omega
            case rel => exact ⟨k + 1, dx, by omega, by go_num, kdd, by rw [HN.out]; exact hdd, hbd, kld, Bd⟩
        · rw [if_neg hw] at HN
          have t1 : ¬ (v : Int) < (sc : Int) := by omega
          have t2 : ¬ (v : Int) ≥ (ed : Int) := by omega
          go_wp2_with fail
          go_roundw
          case measure => simp [intOf]; omega
          case rel => exact ⟨k + 1, d, by omega, by go_num, kd, by rw [HN.out]; exact hd, hbm, kl, hbel⟩
      · obtain rfl : k = 5 := by omega
        rw [List.take_of_length_le (by rw [HL.out.2.2]; exact Nat.le_refl _)] at hd
        have hDn : (mks ed sc (Dk.new e2) Lv).n = e2 := mks_n _ _ _ _
        have hcur : ∀ j, j < e2 → (j < sc ∨ ed ≤ j) → (mks ed sc (Dk.new e2) Lv).sync.cur j = rep 128 7 := fun j h3 h4 => mks_in ed sc Lv _ j (HL.out.2.1 j h3 h4) h4
        generalize mks ed sc (Dk.new e2) Lv = DM at hd hDn hcur
        have hsd := hd.sync
        have hDn2 : DM.sync.n = e2 := hDn
        have hDW2 : DM.sync.W.length ≤ 900000 := Nat.zero_le _
        generalize DM.sync = DS at hsd hcur hDn2 hDW2
        have HDS := hid hsd
        have HCu := hid hcur
        clear hd hDn hcur hsd kl
        obtain ⟨x0, x1, x2, x3, x4⟩ := kd.c5
        have ld := kd.lt
        go_wp2_with fail
        refine (sync_any d wr).mono ?_
        rintro e wb ⟨rfl, bb⟩
        have HDb := hid (HDS.out.keep bb)
        have hbb := RL.below hbm bb
        have Bb := hbel.trans (bb.mono hbel.size)
        clear x0 x1 x2 x3 x4 ld kd hbm hbel bb HDS
        generalize d.sync = ds at HDb ⊢
        go_wp2_with fail
        refine (pcreate_good ds DS sc q wb HDb.out (HTb.out.keep Bb) hq1.1 (by omega) (by have := HED.out; omega) hDW2).mono ?_
        rintro e wc ⟨d3, rfl, hd3, bc⟩
        have hDn3 : (DS.fresh sc).n = e2 := (Dk.fresh_n _ _).trans hDn2
        have hsim : Sim DS.cur (Pgr.mk d3 sc q 0 1 [] zeros128 zeros128) (DS.fresh sc) (RS.new q) 0 := Sim.fresh d3 (by omega) hq1.1 (by omega) (by have := HED.out; omega)
        have hP := hsim.pok
        have hG : Good DS.cur 0 sc e2 wc (Pgr.mk d3 sc q 0 1 [] zeros128 zeros128) (DS.fresh sc) (RS.new q) := ⟨hsim, rfl, hDn3, hd3⟩
        generalize Pgr.mk d3 sc q 0 1 [] zeros128 zeros128 = P at hP hG ⊢
        generalize DS.cur = F at hG HCu
        generalize DS.fresh sc = D at hG
        have HG := hid hG
        have Bc := Bb.trans (bc.mono Bb.size)
        have hbc := RL.below hbb bc
        have hsc := Bc.size
        clear hG hsim hd3 hDn3 bc hbb Bb HDb hDn2 hDW2
        go_upto_region 14 with (first
          | ((with_reducible refine is_alloc 37 ?_); refine wp_allocB (w := wc) _ arrPgr ?_; intro wd kd bd sd; go_frame)
          | ((with_reducible refine is_store 37 ?_); refine wp_storeP wc.heap.size _ P hP kd (by rw [Pgr.cs_len Pgr.zero_ok]) rfl rfl ?_; intro we kP re; go_frame))
        have ba : Below wc.heap.size wc we := bd.grown re bd.size (fun z hz => by cases hz; exact Nat.le_refl _)
        have Be := Bc.trans (ba.mono Bc.size)
        have HGe := hid (HG.out.keep ba)
        have hbe := RL.below hbc ba
        clear bd sd kd re ba Bc HG hbc
        generalize wc.heap.size = G15 at *
        have lP := kP.lt
        refine wp_region_headA 138 6 5 [79, 80, 81, 82, 83, 17] [] (fun β kq => ([fun u w' => u = P.v, fun u w' => u = .int .i64 (q : Int), fun u w' => ∃ (v : RV), u = v.v ∧ RVr (fun x => β ≠ some x) w' v (RS.new q), fun u w' => u = .int .i64 (sc : Int), fun u w' => ∃ (v : RV), u = (StV.mk P v sc).val ∧ RVr (fun x => β ≠ some x) w' v (RS.new q), fun u w' => ∃ (b9 : Nat), u = .pointer (some ⟨b9, 0, none⟩) ∧ β = some b9 ∧ Blk w' b9 63 StV.zero.cs] : List (Value → World → Prop)).getD kq (fun _ _ => True)) (by kernel_rfl) rfl (by kernel_rfl) (by decide) (.inl rfl) ?grow ?up ?step ?tail
        case step =>
          simp only [List.take_succ_cons, List.take_zero]
          refine HStepsA.cons ?_ ?_
          · intro β f w' hb hβ hU
            simp only [putAll, List.foldl_cons, List.foldl_nil]
            go_frame
            go_wp2_with ((with_reducible refine is_load 37 ?_); refine wp_loadP G15 P hP (kP.keep hb) rfl ?_; go_frame)
            exact ⟨rfl, _, rfl, Below.refl _ _, StepA.o (by decide) (rfl)⟩
          refine HStepsA.cons ?_ ?_
          · intro β f w' hb hβ hU
            simp only [putAll, List.foldl_cons, List.foldl_nil]
            go_frame
            go_wp2_with fail
            exact ⟨rfl, _, rfl, Below.refl _ _, StepA.o (by decide) (rfl)⟩
          refine HStepsA.cons ?_ ?_
          · intro β f w' hb hβ hU
            obtain u1 : f 80 = .int .i64 (q : Int) := hU.get ⟨1, .data⟩ (by simp) rfl
            simp only [putAll, List.foldl_cons, List.foldl_nil]
            go_frame
            try simp only [u1]
            go_wp2_with fail
            refine (rnew_any (N := (fun x => β ≠ some x)) q w' (fun b hh e => by have := (hβ b e).2; omega) (by omega)).mono ?_
            rintro e w3 ⟨v, rfl, hv, b3⟩
            go_wp2_with fail
            exact ⟨rfl, _, rfl, b3, StepA.o (by decide) ⟨v, rfl, hv⟩⟩
          refine HStepsA.cons ?_ ?_
          · intro β f w' hb hβ hU
            simp only [putAll, List.foldl_cons, List.foldl_nil]
            go_frame
            go_wp2_with fail
            exact ⟨rfl, _, rfl, Below.refl _ _, StepA.o (by decide) (rfl)⟩
          refine HStepsA.cons ?_ ?_
          · intro β f w' hb hβ hU
            obtain u0 : f 79 = P.v := hU.get ⟨0, .data⟩ (by simp) rfl
            obtain ⟨v, u2, v2_0⟩ : ∃ (v : RV), f 81 = v.v ∧ RVr (fun x => β ≠ some x) w' v (RS.new q) := hU.get ⟨2, .data⟩ (by simp) rfl
            obtain u3 : f 82 = .int .i64 (sc : Int) := hU.get ⟨3, .data⟩ (by simp) rfl
            simp only [putAll, List.foldl_cons, List.foldl_nil]
            go_frame
            try simp only [u0, u2, u3]
            go_wp2_with (with_reducible refine wp_buildT (StV.mk P v sc) hP rfl rfl rfl ?_; go_frame)
            exact ⟨rfl, _, rfl, Below.refl _ _, StepA.o (by decide) ⟨v, rfl, v2_0⟩⟩
          refine HStepsA.cons ?_ ?_
          · intro β f w' hb hβ hU
            simp only [putAll, List.foldl_cons, List.foldl_nil]
            go_frame
            go_wp2_with ((with_reducible refine is_alloc 63 ?_); refine wp_allocB _ arrSto ?_; intro w5 k5 b5 s5; go_frame)
            exact ⟨rfl, _, rfl, b5, StepA.p s5 ⟨_, rfl, rfl, k5⟩⟩
          exact HStepsA.nil
        case grow =>
          intro β kq u wa wb hb hu
          rcases kq with _ | _ | _ | _ | _ | _ | kq
          · exact hu
          · exact hu
          · obtain ⟨v, ue, uf0⟩ := hu
            exact ⟨v, ue, uf0.keep hb⟩
          · exact hu
          · obtain ⟨v, ue, uf0⟩ := hu
            exact ⟨v, ue, uf0.keep hb⟩
          · obtain ⟨b9, ue, uf0, uf1⟩ := hu
            exact ⟨b9, ue, uf0, uf1.keep hb⟩
          · trivial
        case up =>
          intro kq u wa hu
          rcases kq with _ | _ | _ | _ | _ | _ | kq
          · exact hu
          · exact hu
          · obtain ⟨v, ue, uf0⟩ := hu
            exact ⟨v, ue, (uf0.lt.mono (fun x hx => fun e => by cases e; exact Nat.lt_irrefl _ hx.2))⟩
          · exact hu
          · obtain ⟨v, ue, uf0⟩ := hu
            exact ⟨v, ue, (uf0.lt.mono (fun x hx => fun e => by cases e; exact Nat.lt_irrefl _ hx.2))⟩
          · obtain ⟨b9, ue, uf0, uf1⟩ := hu
            cases uf0
          · trivial
        case tail =>
          intro bv f w7 hb7 hv1 hv2 hU
          obtain ⟨v, u4, v4_0⟩ : ∃ (v : RV), f 83 = (StV.mk P v sc).val ∧ RVr (fun x => (some bv) ≠ some x) w7 v (RS.new q) := hU.get 4 (by decide)
          obtain ⟨b9, u5, v5_0, v5_1⟩ : ∃ (b9 : Nat), f 17 = .pointer (some ⟨b9, 0, none⟩) ∧ (some bv) = some b9 ∧ Blk w7 b9 63 StV.zero.cs := hU.get 5 (by decide)
          simp only [List.drop_succ_cons, List.drop_zero, putAll, List.foldl_cons, List.foldl_nil]
          go_frame
          simp only [u4, u5]
          clear u4 u5
          clear hU
          obtain rfl := Option.some.inj v5_0
          have HG7 := hid (HGe.out.keep hb7)
          have B7 := Be.trans (hb7.mono Be.size)
          have hbm7 := RL.below hbe hb7
          have hbs := B7.size
          have lv7 := v5_1.lt
          have hs1 := Be.size
          have hgb : w.heap.size ≤ bv := by omega
          have hgmb : gm < bv := by have := hbe.2 (by omega); obtain ⟨x1, x2, x3, x4, _⟩ := this; cases x3; omega
          clear hb7 HGe Be hbe kP lP
          go_wp2_with ((with_reducible refine is_store 63 ?_); refine wp_storeT bv _ (StV.mk P v sc) hP v5_1 (by rw [StV.cs_len Pgr.zero_ok]) rfl rfl ?_; intro w8 kx r8; go_frame)
          have B8 := B7.grown r8 B7.size (fun z hz => by cases hz; exact hgb)
          have HS8 : Hid (Sto F 0 sc q e2 (fun b => b ≠ bv) w8 (StV.mk P v sc) D (RS.new q)) := hid (Sto.var ⟨HG7.out.sim, rfl, HG7.out.sec, rfl, HG7.out.dn, HG7.out.d, v4_0.mono (fun x hx e => hx (by rw [e]))⟩ r8 v5_1 notSto (fun h => h rfl))
          have hbm8 := RL.grown hbm7 r8 (fun q hq _ b' o' hb' => by cases hq; cases hb'; omega)
          clear v4_0 v5_1 r8 HG7 B7 hbm7 lv7 hbs hv1 hv2 hs1
          go_loopw [86] (fun i wr => ∃ (k : Nat) (x : StV) (D : Dk) (S : RS), k ≤ m ∧ i = .int .i64 k ∧ Blk wr bv 63 x.cs ∧ Hid (Sto F k sc q e2 (fun b => b ≠ bv) wr x D S) ∧ RB wr (some ⟨gm, 0, none⟩) 128 (rep 128 7) ∧ Below w.heap.size w wr) (fun i _ => m - (intOf i).toNat)
          case atStart => exact ⟨0, _, D, RS.new q, Nat.zero_le _, rfl, kx, HS8, hbm8, B8⟩
          case round =>
            clear HS8 B8 kx hbm8 hP
            obtain ⟨k, x, D, S, hk, rfl, kx, HH, hbm, hbel⟩ := hrel
            by_cases hlt : k < m
            · obtain ⟨b, off, a, rfl, hbb, hx, hcell⟩ := (HR.out.below hbel).el (f := Ac.cs) (fun _ => rfl) hlt (by omega)
              have C0 := hcell 0 _ rfl
              have C1 := hcell 1 _ rfl
              have C2 := hcell 2 _ rfl
              have C3 := hcell 3 _ rfl
              have C4 := hcell 4 _ rfl
              rw [Nat.add_zero] at C0
              have hmem := List.mem_of_getElem? hx
              have HA := hid (And.intro (HOK.out a hmem) (HF.out.2 a hmem))
              clear hcell hx hmem
              have tk : (k : Int) < (m : Int) := by omega
              have hp := HH.out.sim.pok
              have hgr : bv < wr.heap.size := kx.lt
              go_wp2_with (first
                | ((with_reducible refine is_alloc 66 ?_); refine wp_allocB (w := wr) _ arrAct ?_; intro w5 k5 b5 s5; go_frame)
                | ((with_reducible refine is_store 66 ?_); refine wp_storeB wr.heap.size _ _ a.cs k5 actN rfl (ac_one _) rfl rfl ?_; intro w6 k6 r6; go_frame; obtain ⟨a0, a1, a2, a3, a4⟩ := k6.c5; have l6 := k6.lt; have kx6 := (kx.keep b5).grown r6 (by simp; omega))
                | ((with_reducible refine is_load 63 ?_); refine wp_loadT bv x hp kx6 rfl ?_; go_frame))
              have ba : Below wr.heap.size wr w6 := b5.grown r6 b5.size (fun z hz => by cases hz; exact Nat.le_refl _)
              have B6 := hbel.trans (ba.mono hbel.size)
              replace HH := hid (HH.out.keep ba)
              have hbm6 := RL.below hbm ba
              clear b5 s5 k5 r6 ba a0 a1 a2 a3 a4 C0 C1 C2 C3 C4 hbel kx l6 k6 hbm
              refine (do_any x a D S w6 (HTb.out.keep B6) HH.out (fun b hb => by have := kx6.lt; omega) (by omega) HA.out.1 HA.out.2).mono ?_
              rintro e w7 ⟨y, D', S', rfl, HY0, b7⟩
              have HY := hid HY0
              have hpy := HY0.sim.pok
              have B7 := B6.trans (b7.mono B6.size)
              have kx7 := kx6.keep b7
              have hbm7 := RL.below hbm6 b7
              clear HY0 b7 B6 kx6 HH hbm6
              have lx7 := kx7.lt
              go_wp2_with ((with_reducible refine is_store 63 ?_); refine wp_storeT bv _ y hpy kx7 (StV.cs_len hp) rfl rfl ?_; intro w8 kx8 r8; go_frame)
              have B8 := B7.grown r8 B7.size (fun z hz => by cases hz; exact hgb)
              have HY8 := HY.out.var r8 kx7 notSto (fun h => h rfl)
              have hbm8 := RL.grown hbm7 r8 (fun q hq _ b' o' hb' => by cases hq; cases hb'; omega)
              go_roundw
              case measure => simp [intOf]; omega
              case rel => exact ⟨k + 1, y, D', S', by omega, by go_num, kx8, hid HY8, hbm8, B8⟩
            · obtain rfl : k = m := by omega
              have hp := HH.out.sim.pok
              have hout : ∀ j, j < e2 → (j < sc ∨ ed ≤ j) → D.cur j = rep 128 7 := fun j h3 h4 => by
                rw [HH.out.sim.cur_out j (by rw [HH.out.s2, HH.out.n]; have := HED.out; omega)]
                exact HCu.out j h3 h4
              have HOut := hid hout
              have hdn := HH.out.dn
              have HD := hid HH.out.d
              clear hout
              go_wp2_with fail
              go_loopw [99] (fun i wr => ∃ j : Nat, j ≤ e2 ∧ i = .int .i64 j ∧ Blk wr bv 63 x.cs ∧ Hid (DkV wr x.p.d D) ∧ RB wr (some ⟨gm, 0, none⟩) 128 (rep 128 7) ∧ Below w.heap.size w wr) (fun i _ => e2 - (intOf i).toNat)
              case atStart => exact ⟨0, Nat.zero_le _, rfl, kx, HD, hbm, hbel⟩
              case round =>
                clear kx HD hbm hbel HH
                obtain ⟨j, hj, rfl, kx, HD, hbm, hbel⟩ := hrel
                by_cases hlt : j < e2
                · have tj : (j : Int) < (e2 : Int) := by omega
                  have lx := kx.lt
                  go_wp2_with ((with_reducible refine is_load 37 ?_); refine wp_loadTPg bv x hp kx rfl rfl ?_; go_frame)
                  refine (disk_any x.p _).mono ?_
                  rintro e w5 ⟨rfl, b5⟩
                  have HD5 := hid (HD.out.keep b5)
                  go_wp2_with fail
                  refine (read_good x.p.d D j w5 HD5.out (by omega)).mono ?_
                  rintro e w6 ⟨g6, rfl, hown, b6⟩
                  have hr6 : RB w6 (some ⟨g6, 0, none⟩) 128 (D.cur j) := RL.of_own hown
                  have b56 := b5.trans (b6.mono b5.size)
                  have kx6 := kx.keep b56
                  have HD6 := hid (HD5.out.keep b6)
                  have hbm6 := RL.below hbm b56
                  have B6 := hbel.trans (b56.mono hbel.size)
                  clear b5 b6 b56 HD5 HD kx hbm hbel hown lx
                  obtain ⟨bb, hbb⟩ : ∃ z, ((j : Int) != 3) = z := ⟨_, rfl⟩
                  by_cases h3 : j < sc ∨ ed ≤ j
                  · have hE := HOut.out j hlt h3
                    rw [hE] at hr6
                    clear hE
                    go_upto_region 24 with fail
                    go_cut [131] (fun a wx => a = .bool false ∧ wx = w6)
                    case first =>
                      by_cases h4 : j < sc
                      · have t1 : (j : Int) < (sc : Int) := by omega
                        cases bb with
                        | false =>
                          go_wp2_with fail
                          go_meet
                          case rel => exact ⟨rfl, rfl⟩
                        | true =>
                          go_wp2_with fail
                          refine (equal_any _ _ _ _ _ _ (rep 128 7) (rep 128 7) _ hr6 hbm6).mono ?_
                          rintro e w7 ⟨rfl, rfl⟩
                          rw [beq_self_eq_true]
                          go_wp2_with fail
                          go_meet
                          case rel => exact ⟨rfl, rfl⟩
                      · have t1 : ¬ (j : Int) < (sc : Int) := by omega
                        have t2 : (j : Int) ≥ (ed : Int) := by omega
                        cases bb with
                        | false =>
                          go_wp2_with fail
                          go_meet
                          case rel => exact ⟨rfl, rfl⟩
                        | true =>
                          go_wp2_with fail
                          refine (equal_any _ _ _ _ _ _ (rep 128 7) (rep 128 7) _ hr6 hbm6).mono ?_
                          rintro e w7 ⟨rfl, rfl⟩
                          rw [beq_self_eq_true]
                          go_wp2_with fail
                          go_meet
                          case rel => exact ⟨rfl, rfl⟩
                    case rest =>
                      obtain ⟨rfl, rfl⟩ := hcut
                      go_wp2_with fail
                      go_roundw
                      case measure => simp [intOf]; omega
                      case rel => exact ⟨j + 1, by omega, by go_num, kx6, HD6, hbm6, B6⟩
                  · have t1 : ¬ (j : Int) < (sc : Int) := by omega
                    have t2 : ¬ (j : Int) ≥ (ed : Int) := by omega
                    go_wp2_with fail
                    go_roundw
                    case measure => simp [intOf]; omega
                    case rel => exact ⟨j + 1, by omega, by go_num, kx6, HD6, hbm6, B6⟩
                · obtain rfl : j = e2 := by omega
                  go_wp2_with fail
                  refine (awake_any _ (HTb.out.keep hbel)).mono ?_
                  rintro e w11 ⟨rfl, b11⟩
                  go_wp2_with fail
                  go_ret
                  exact ⟨rfl, hbel.trans (b11.mono hbel.size)⟩
end Go.Proofs.YtanglofabkbllaaDoor

