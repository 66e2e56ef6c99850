/- A state built out of its four parts. Conditions: the set has 128 bytes. Commit of package pager, walked. Conditions: the pager fits its disk; the table of remainders is laid. -/
import Derived.Test.YtanglofabkbllaaDoorPgO
import Derived.Great.FillDense
import Derived.Test.YtanglofabkbllaaDoorPgP
import Derived.Deep.Cut
import Derived.Deep.CutBlock
import Derived.Deep.DeepCutAuto
set_option linter.unusedSimpArgs false
set_option linter.unusedVariables false
namespace Go.Proofs.YtanglofabkbllaaDoor
open Go.RowKit

theorem fill_app (pl : Nat → Option (Nat × Nat)) : ∀ (ps : List (Nat × Value)) (cells : Array Value) (qs : List (Nat × Value)), Instr.fill pl cells (ps ++ qs) = (Instr.fill pl cells ps).bind (fun c => Instr.fill pl c qs)
  | [], _, _ => rfl
  | (i, v) :: ps, cells, qs => by
    rw [List.cons_append, Instr.fill, Instr.fill]
    cases pl i with
    | none => rfl
    | some p =>
      obtain ⟨off, size⟩ := p
      dsimp only
      split
      · rfl
      · exact fill_app pl ps _ qs
theorem fill_last (pl : Nat → Option (Nat × Nat)) (pre xs ys : List Value) (i : Nat) (hpl : pl i = some (pre.length, xs.length)) (hl : xs.length = ys.length) : Instr.fill pl (pre ++ ys).toArray [(i, .agg xs.toArray)] = some (pre ++ xs).toArray := by
  rw [Instr.fill, hpl]
  dsimp only
  have hc : (Value.agg xs.toArray).cells = xs.toArray := rfl
  rw [hc, if_neg (by simp; omega), Instr.fill]
  congr 1
  obtain ⟨h1, h2⟩ := Great.foldl_set pre.length xs 0 (pre ++ ys).toArray
  have e : xs.toArray.zipIdx.foldl (fun cs (c, j) => cs.setIfInBounds (pre.length + j) c) (pre ++ ys).toArray = (xs.zipIdx 0).foldl (fun cs (x : Value × Nat) => cs.setIfInBounds (pre.length + x.2) x.1) (pre ++ ys).toArray := by simp
  rw [e]
  apply Array.ext_getElem?
  intro k
  rw [h2 k]
  simp only [List.size_toArray, List.length_append, List.getElem?_toArray]
  by_cases hk : k < pre.length
  · rw [if_neg (by omega), List.getElem?_append_left hk, List.getElem?_append_left hk]
  · rw [List.getElem?_append_right (by omega), List.getElem?_append_right (by omega)]
    by_cases hk2 : k < pre.length + ys.length
    · rw [if_pos (by omega)]
      rfl
    · rw [if_neg (by omega), List.getElem?_eq_none (by omega), List.getElem?_eq_none (by omega)]
def staPl : List (Nat × Nat) := [(0, 1), (1, 1), (2, 1), (3, 128)]
theorem sta_places : (match Tryd.prog.underlying 35 with | some (.struct fs) => fs.toList.mapM (fun f => (Tryd.prog.info? f.type).map fun i => (f.offset, i.size)) | _ => none) = some staPl := by kernel_rfl
theorem fill3 (root num : Int) (mt : ByteArray) : Instr.fill (staPl.toArray[·]?) (Value.agg Sta.zero.cs.toArray).cells [(0, .int .i64 root), (1, .int .u64 num), (2, .string mt)] = some ([Value.int .i64 root, Value.int .u64 num, Value.string mt] ++ zeros128.map byV).toArray := by kernel_rfl
theorem built4 (root num : Int) (mt : ByteArray) (xs : List Value) (hx : xs.length = 128) : Tryd.prog.built 35 ([(0, .int .i64 root), (1, .int .u64 num), (2, .string mt)] ++ [(3, .agg xs.toArray)]) = some ([Value.int .i64 root, Value.int .u64 num, Value.string mt] ++ xs).toArray := by
  have hz := arrSta
  unfold ArrT at hz
  have hp := sta_places
  unfold Program.built
  cases hi : Tryd.prog.info? 35 with
  | none => simp [hi] at hz
  | some it =>
    simp only [hi, Option.map_some, Option.some.injEq, Prod.mk.injEq] at hz
    cases hu : Tryd.prog.underlying 35 with
    | none => rw [hu] at hp; cases hp
    | some d =>
      rw [hu] at hp
      cases d <;> try (cases hp; done)
      rename_i fs
      dsimp only at hp ⊢
      rw [hp, hz.1]
      dsimp only
      rw [fill_app, fill3]
      exact fill_last (staPl.toArray[·]?) [Value.int .i64 root, Value.int .u64 num, Value.string mt] xs (zeros128.map byV) 3 (by rw [hx]; rfl) (by rw [hx]; simp [zeros128])
section
variable {ops : Array Oper} {rest : List Oper} {Q : Exit → Act → World → Prop} {a : Act} {w : World} {ty : TypeId} {ps : String} {af : Array Edge} {d : Option Tmp} {x y z u : Operand}
theorem wp_buildS4 (root num : Nat) (mt nu : List UInt8) (hn : nu.length = 128) (hx : a.eval x = .int .i64 root) (hy : a.eval y = .int .u64 num) (hz : a.eval z = .string ⟨mt.toArray⟩) (hu : a.eval u = .agg (nu.map byV).toArray) (h : wpList Tryd.prog ops Q rest (a.put d (Sta.mk root num mt nu).v) w) : wpList Tryd.prog ops Q (⟨d, Op.build 35 #[(0, x), (1, y), (2, z), (3, u)], ty, ps, af, none⟩ :: rest) a w := by
  have e : ∀ l : List (Nat × Value), l = [(0, .int .i64 root), (1, .int .u64 num), (2, .string ⟨mt.toArray⟩)] ++ [(3, .agg (nu.map byV).toArray)] → Tryd.prog.built 35 l = some (Sta.mk root num mt nu).cs.toArray := by
    rintro l rfl
    exact built4 _ _ _ _ (by rw [List.length_map, hn])
  refine wpList_build rfl 35 _ rfl (by rw [e _ (by simp [hx, hy, hz, hu])]; simp) ?_
  rw [e _ (by simp [hx, hy, hz, hu])]
  exact h
end
end Go.Proofs.YtanglofabkbllaaDoor
set_option linter.unusedSimpArgs false
set_option linter.unusedVariables false
namespace Go.Proofs.YtanglofabkbllaaDoor
open Go.RowKit

section
variable {ops : Array Oper} {rest : List Oper} {Q : Exit → Act → World → Prop} {a : Act} {w : World} {ty : TypeId} {ps : String} {af : Array Edge} {d : Option Tmp} {x y : Operand}
theorem wp_loadPg {gd : Option (Nat × Bool)} (g : Nat) (p : Pgr) (hp : p.ok) (hg : Blk w g 37 p.cs) (hx : a.eval x = .pointer (some ⟨g, 0, none⟩)) (hw : Region.wanted ⟨d, Op.load 37 x, ty, ps, af, gd⟩ (yielded ops a.tmps) = true)
    (h : wpList Tryd.prog ops Q rest (a.put d p.v) w) : wpList Tryd.prog ops Q (⟨d, Op.load 37 x, ty, ps, af, gd⟩ :: rest) a w := by
  unfold wpList
  rw [if_pos hw]
  exact .inl (wp_load_mid 37 x rfl g 0 hx p.cs _ (fun j v hv => by rw [Nat.zero_add, hg.cell]; exact hv) Tryd.underlying37 rfl (pgrN.trans (by rw [Pgr.cs_len hp])) h)
end
/-- the sectors 1 to k of a page are written -/
def Dk.fill (D : Dk) (s : Nat) (b : List UInt8) : Nat → Dk
  | 0 => D
  | k + 1 => (Dk.fill D s b k).write (s + (k + 1)) ((b.drop ((k + 1) * 128)).take 128)
theorem Dk.fill_n (D : Dk) (s : Nat) (b : List UInt8) : ∀ k, (D.fill s b k).n = D.n
  | 0 => rfl
  | k + 1 => Dk.fill_n D s b k
theorem Dk.fill_W (D : Dk) (s : Nat) (b : List UInt8) : ∀ k, (D.fill s b k).W.length = D.W.length + k
  | 0 => rfl
  | k + 1 => by
    show (D.fill s b k).W.length + 1 = _
    rw [Dk.fill_W D s b k]; rfl
/-- the disk behind a commit of a root page at a slot -/
def Dk.root (D : Dk) (s : Nat) (b : List UInt8) : Dk := ((((D.write s zero128).sync.fill s b 7).sync).write s (b.take 128)).sync
set_option maxRecDepth 100000 in
set_option maxHeartbeats 4000000 in
theorem commit_no (p : Pgr) (root : Nat) (A : Option Addr) (n c : Nat) (w : World) (hp : p.ok) (h0 : root ≠ 0) (hu : p.uses root = false) :
    Calls Tryd.prog 30 #[p.v, .int .i64 root, .slice A n c] w fun e w' => e = .returned (.tuple #[p.v, .int .i64 9]) ∧ Below w.heap.size w w' := by
  have U := hid (fun wx => uses_any p root wx hp)
  rw [hu] at U
  have t1 : ((root : Int) != 0) = true := by rw [bne_iff_ne]; omega
  go_enter Tryd.func30, Tryd.ntmps30
  unfold Pgr.v
  have hP : Blk (w.alloc (.cells p.cs.toArray 37)) w.heap.size 37 p.cs := Blk.new w _ _
  have hB : Below w.heap.size w (w.alloc (.cells p.cs.toArray 37)) := (Below.refl _ _).alloc (Nat.le_refl _) _
  have hs : (w.alloc (.cells p.cs.toArray 37)).heap.size = w.heap.size + 1 := by simp
  go_wp2_with (first
    | ((with_reducible refine is_alloc 37 ?_); refine wp_allocN (w.heap.size + 1) hs _ arrPgr ?_; intro w2 k2 b2 s2; go_frame; have kP := hP.below b2 (by omega); have hB2 := hB.trans (b2.mono (by omega)); clear hP hB)
    | ((with_reducible refine is_load 37 ?_); refine wp_loadPg w.heap.size p hp kP rfl rfl ?_; go_frame))
  refine (U.out _).mono ?_
  rintro e w3 ⟨rfl, b3⟩
  replace kP := kP.keep b3
  have k3 := k2.keep b3
  have hB3 := hB2.trans (b3.mono hB2.size)
  clear k2 hB2 b3
  go_wp2_with (first
    | ((with_reducible refine is_load 37 ?_); refine wp_loadP w.heap.size p hp kP rfl ?_; go_frame)
    | ((with_reducible refine is_store 37 ?_); refine wp_storeP (w.heap.size + 1) _ p hp k3 (by rw [Pgr.cs_len Pgr.zero_ok]) rfl rfl ?_; intro w4 k4 r4; go_frame))
  refine bodyPost_ret (results_P2 Tryd.results30 _ _ (w.heap.size + 1) p hp rfl k4) rfl ⟨rfl, hB3.grown r4 hB3.size (fun g hg => by cases hg; omega)⟩
/-- whether a root may be committed -/
def Pgr.rootOk (p : Pgr) (root : Nat) : Prop := root = 0 ∨ p.uses root = true
set_option maxRecDepth 100000 in
set_option maxHeartbeats 4000000 in
theorem commit_long (p : Pgr) (root : Nat) (A : Option Addr) (n c : Nat) (w : World) (hp : p.ok) (h0 : p.rootOk root) (hn : 256 < n) :
    Calls Tryd.prog 30 #[p.v, .int .i64 root, .slice A n c] w fun e w' => e = .returned (.tuple #[p.v, .int .i64 13]) ∧ Below w.heap.size w w' := by
  have tn : (n : Int) > 256 := by omega
  go_enter Tryd.func30, Tryd.ntmps30
  unfold Pgr.v
  have hP : Blk (w.alloc (.cells p.cs.toArray 37)) w.heap.size 37 p.cs := Blk.new w _ _
  have hB : Below w.heap.size w (w.alloc (.cells p.cs.toArray 37)) := (Below.refl _ _).alloc (Nat.le_refl _) _
  have hs : (w.alloc (.cells p.cs.toArray 37)).heap.size = w.heap.size + 1 := by simp
  go_upto_region 1 with ((with_reducible refine is_alloc 37 ?_); refine wp_allocN (w.heap.size + 1) hs _ arrPgr ?_; intro w2 k2 b2 s2; go_frame; have kP := hP.below b2 (by omega); have hB2 := hB.trans (b2.mono (by omega)); clear hP hB)
  go_cut [22] (fun v wx => v = .bool false ∧ Blk wx w.heap.size 37 p.cs ∧ Blk wx (w.heap.size + 1) 37 Pgr.zero.cs ∧ Below w.heap.size w wx)
  case first =>
    by_cases hr : root = 0
    · have t1 : ((root : Int) != 0) = false := by rw [bne_eq_false_iff_eq]; omega
      clear hr
      go_wp2_with fail
      go_meet
      case rel => exact ⟨rfl, kP, k2, hB2⟩
    · have t1 : ((root : Int) != 0) = true := by rw [bne_iff_ne]; omega
      have U := hid (fun wx => uses_any p root wx hp)
      rw [h0.resolve_left hr] at U
      go_wp2_with ((with_reducible refine is_load 37 ?_); refine wp_loadPg w.heap.size p hp kP rfl rfl ?_; go_frame)
      refine (U.out _).mono ?_
      rintro e w3 ⟨rfl, b3⟩
      go_wp2_with fail
      go_meet
      case rel => exact ⟨rfl, kP.keep b3, k2.keep b3, hB2.trans (b3.mono hB2.size)⟩
  case rest =>
    obtain ⟨rfl, kP, kR, hbel⟩ := hcut
    go_wp2_with (first
      | ((with_reducible refine is_load 37 ?_); refine wp_loadP w.heap.size p hp kP rfl ?_; go_frame)
      | ((with_reducible refine is_store 37 ?_); refine wp_storeP (w.heap.size + 1) _ p hp kR (by rw [Pgr.cs_len Pgr.zero_ok]) rfl rfl ?_; intro w4 k4 r4; go_frame))
    refine bodyPost_ret (results_P2 Tryd.results30 _ _ (w.heap.size + 1) p hp rfl k4) rfl ⟨rfl, hbel.grown r4 hbel.size (fun g hg => by cases hg; omega)⟩
set_option maxRecDepth 100000 in
set_option maxHeartbeats 12000000 in
theorem commit_good (p : Pgr) (D : Dk) (root : Nat) (A : Option Addr) (n c : Nat) (l : List UInt8) (w : World) (hp : p.ok) (hT : Tab w) (hd : DkV w p.d D) (hl : RB w A n l) (hn : n ≤ 256) (h0 : p.rootOk root) (hr : root ≤ 1023) (hpg : 1 ≤ p.pgs) (hnum : p.num + 1 < 18446744073709551616) (hD : p.sec + 16 ≤ D.n) (hDW : D.W.length ≤ 900000) :
    Calls Tryd.prog 30 #[p.v, .int .i64 root, .slice A n c] w fun e w' => ∃ d' : DV, e = .returned (.tuple #[((p.com ⟨root, p.num + 1, l, p.nu⟩).on d').v, .int .i64 0]) ∧ DkV w' d' (D.root (p.sec + 8 * ((p.num + 1) % 2)) (encoded 0 (p.num + 1) 2 (rootBody root l p.nu))) ∧ Below w.heap.size w w' := by
  have tn : ¬ (n : Int) > 256 := by omega
  have hcu := hp.cu
  have hnu := hp.nu
  have hll := hl.len
  have HDk := hid hd
  have HTb := hid hT
  have HRl := hid hl
  have HLim : Hid (p.sec + 16 ≤ D.n ∧ D.W.length ≤ 900000 ∧ D.n ≤ 16384) := hid ⟨hD, hDW, hd.hn⟩
  clear hd hT hl hD hDW
  have e1 : IntKind.u64.wrap ((p.num : Int) + 1) = ((p.num + 1 : Nat) : Int) := by rw [IntKind.wrap_u64]; omega
  go_enter Tryd.func30, Tryd.ntmps30
  unfold Pgr.v
  have hP : Blk (w.alloc (.cells p.cs.toArray 37)) w.heap.size 37 p.cs := Blk.new w _ _
  have hB : Below w.heap.size w (w.alloc (.cells p.cs.toArray 37)) := (Below.refl _ _).alloc (Nat.le_refl _) _
  have hs : (w.alloc (.cells p.cs.toArray 37)).heap.size = w.heap.size + 1 := by simp
  go_upto_region 1 with ((with_reducible refine is_alloc 37 ?_); refine wp_allocN (w.heap.size + 1) hs _ arrPgr ?_; intro w2 k2 b2 s2; go_frame; have kP := hP.below b2 (by omega); have hB2 := hB.trans (b2.mono (by omega)); clear hP hB)
  go_cut [22] (fun v wx => v = .bool false ∧ Blk wx w.heap.size 37 p.cs ∧ Blk wx (w.heap.size + 1) 37 Pgr.zero.cs ∧ Below w.heap.size w wx)
  case first =>
    by_cases hr : root = 0
    · have t1 : ((root : Int) != 0) = false := by rw [bne_eq_false_iff_eq]; omega
      clear hr
      go_wp2_with fail
      go_meet
      case rel => exact ⟨rfl, kP, k2, hB2⟩
    · have t1 : ((root : Int) != 0) = true := by rw [bne_iff_ne]; omega
      have U := hid (fun wx => uses_any p root wx hp)
      rw [h0.resolve_left hr] at U
      go_wp2_with ((with_reducible refine is_load 37 ?_); refine wp_loadPg w.heap.size p hp kP rfl rfl ?_; go_frame)
      refine (U.out _).mono ?_
      rintro e w3 ⟨rfl, b3⟩
      go_wp2_with fail
      go_meet
      case rel => exact ⟨rfl, kP.keep b3, k2.keep b3, hB2.trans (b3.mono hB2.size)⟩
  case rest =>
    obtain ⟨rfl, kP, kR, hbel⟩ := hcut
    have cv := run_str (HRl.out.below hbel) 40 9 5 c Tryd.underlying40 Tryd.underlying5 Tryd.underlying9
    have hrange : wc.rangeAt w.heap.size 138 (p.nu.map byV) := fun j v hv => by
      rw [kP.cell]
      obtain ⟨x, hx, rfl⟩ : ∃ x, p.nu[j]? = some x ∧ byV x = v := by
        rw [List.getElem?_map] at hv
        cases hq : p.nu[j]? with
        | none => rw [hq] at hv; cases hv
        | some x => rw [hq] at hv; exact ⟨x, rfl, Option.some.inj hv⟩
      exact Pgr.csN _ hcu j x hx
    have hnl : (p.nu.map byV).length = 128 := by rw [List.length_map]; exact hnu
    obtain ⟨y0, y1, y2, y3, y4, y5, y6, y7, y8, y9⟩ := Pgr.c10 kP
    have lP := kP.lt
    have hSok : (Sta.mk root (p.num + 1) l p.nu).ok := ⟨by show root < 65536; omega, hnum, by show l.length ≤ 256; omega, hnu⟩
    obtain ⟨g8, hg8⟩ : ∃ z, wc.heap.size = z := ⟨_, rfl⟩
    go_wp2_with (first
      | ((with_reducible refine is_load 33 ?_); refine wpList_load_mid rfl 33 _ rfl w.heap.size 138 rfl _ _ hrange Tryd.underlying33 rfl (bmN.trans (by rw [hnl])) ?_; go_frame)
      | (with_reducible refine wp_buildS4 root (p.num + 1) l p.nu hnu rfl rfl rfl rfl ?_; go_frame)
      | ((with_reducible refine is_alloc 35 ?_); refine wp_allocN g8 hg8 _ arrSta ?_; intro w5 k5 b5 s5; go_frame)
      | ((with_reducible refine is_store 35 ?_); refine wp_storeS g8 _ (Sta.mk root (p.num + 1) l p.nu) hSok k5 (by rw [Sta.cs_len Sta.zero_ok]) rfl rfl ?_; intro w6 k8 r6; go_frame)
      | ((with_reducible refine is_load 35 ?_); refine wp_loadS g8 (Sta.mk root (p.num + 1) l p.nu) hSok k8 rfl ?_; go_frame))
    have hg8w : w.heap.size + 1 < g8 := by have := kR.lt; omega
    have hs56 := b5.size
    have hs66 := r6.size
    replace kP := (kP.below b5 (by omega)).grown r6 (by simp; omega)
    replace kR := (kR.below b5 (by omega)).grown r6 (by simp; omega)
    have hb6 := (hbel.trans (b5.mono (by omega))).grown r6 (by have := hbel.size; omega) (fun z hz => by cases hz; omega)
    clear hrange hbel b5 s5 k5 r6 y0 y1 y2 y3 y4 y5 y6 y7 y8 y9 lP hg8 cv hs56 hs66
    obtain ⟨RB0, hRB0⟩ : ∃ z, rootBody root l p.nu = z := ⟨_, rfl⟩
    have hRl : RB0.length ≤ 1000 := by rw [← hRB0, rootBody_len]; omega
    have R := rootPage_any root (p.num + 1) l p.nu w6 hr hnum (by omega) hnu
    rw [hRB0] at R
    have HRB := hid hRB0
    clear hRB0
    refine R.mono ?_
    clear R
    rintro e w7 ⟨⟨qi, qs, qk, qA, qn, qc, ql⟩, rfl, hq, rfl, rfl, rfl, rfl, b7⟩
    replace kP := kP.keep b7
    replace kR := kR.keep b7
    replace k8 := k8.keep b7
    have hb7 := hb6.trans (b7.mono hb6.size)
    have hqr := hq.rb
    have hqs := hq.s
    have hql := hqr.len
    dsimp only at hqr hqs hql
    clear b7 hb6 hq
    simp only [Pg.v]
    go_wp2_with fail
    obtain ⟨BT, hBT⟩ : ∃ z, encoded 0 (p.num + 1) 2 ql = z := ⟨_, rfl⟩
    have R := encode_good 0 2 (p.num + 1) qA qn qc ql w7 (HTb.out.keep hb7) hqr (by omega) (by omega) (by omega) hqs
    rw [hBT] at R
    have HBT := hid hBT
    have hBl : BT.length = 1024 := by rw [← hBT]; exact enc_len _ _ _ _ hRl
    clear hBT
    refine R.mono ?_
    clear R
    rintro e w8 ⟨v, rfl, hown, b8⟩
    obtain ⟨A2, cb, rfl, hr2, hc2, hm2⟩ := own_form hown
    obtain ⟨gb, oo, rfl, hbb, _⟩ := hr2.2 (by omega)
    have hrb : RB w8 (some ⟨gb, oo, none⟩) 1024 BT := hr2
    have hgb : g8 < gb := by have := (hown.lt gb rfl).1; have := k8.lt; omega
    replace kP := kP.keep b8
    replace kR := kR.keep b8
    replace k8 := k8.keep b8
    have hb8 := hb7.trans (b8.mono hb7.size)
    clear b8 hb7 hqr hqs hql hown hr2 hbb
    have l8 := k8.lt
    have hcom := Pgr.com_cs hp (Sta.mk root (p.num + 1) l p.nu)
    obtain ⟨P1, hP1⟩ : ∃ z, p.com (Sta.mk root (p.num + 1) l p.nu) = z := ⟨_, rfl⟩
    rw [hP1] at hcom
    have hPok : P1.ok := by rw [← hP1]; exact Pgr.com_ok hp hSok
    have hPd : P1.d = p.d ∧ P1.sec = p.sec ∧ P1.pgs = p.pgs := by rw [← hP1]; exact ⟨rfl, rfl, rfl⟩
    have tp : ((P1.pgs : Int) == 0) = false := by rw [beq_eq_false_iff_ne, hPd.2.2]; omega
    have HP1 := hid hP1
    have HPd := hid hPd
    clear hP1 hPd
    go_wp2_with (first
      | ((with_reducible refine is_load 35 ?_); refine wp_loadS g8 (Sta.mk root (p.num + 1) l p.nu) hSok k8 rfl ?_; go_frame)
      | ((with_reducible refine is_store 35 ?_); refine wp_storeO w.heap.size 7 _ p.cs (Sta.mk root (p.num + 1) l p.nu).cs (Sta.mk root (p.num + 1) l p.nu).v kP rfl (staN.trans (by rw [Sta.cs_len hSok])) (by rw [Sta.cs_len hSok, Pgr.cs_len hp]; omega) (Sta.one _) rfl rfl ?_; intro w9 kP9 r9; go_frame; rw [Sta.cs_len hSok, hcom] at kP9; have k89 := k8.grown r9 (by simp; omega); have z1 : w9.cell? ⟨g8, 1, none⟩ = some (.int .u64 ((p.num + 1 : Nat) : Int)) := k89.cell 1; obtain ⟨y0, y1, y2, y3, y4, y5, y6, y7, y8, y9⟩ := Pgr.c10 kP9; have lP := kP9.lt; have l89 := k89.lt)
      | ((with_reducible refine is_load 37 ?_); refine wp_loadP w.heap.size P1 hPok kP9 rfl ?_; go_frame))
    have hs99 := r9.size
    replace kR := kR.grown r9 (by simp)
    replace hrb := hrb.off r9 (by omega)
    have hb9 := hb8.grown r9 hb8.size (fun z hz => by cases hz; omega)
    clear kP k8 r9 hb8 l8 hs99 hcom
    have hsl := slot_any P1 (p.num + 1) w9 hPok hnum
    obtain ⟨SL, hSL⟩ : ∃ z, p.sec + 8 * ((p.num + 1) % 2) = z := ⟨_, rfl⟩
    rw [HPd.out.2.1, hSL] at hsl
    have hSL2 : SL + 8 ≤ p.sec + 16 := by omega
    have HSL := hid hSL
    clear hSL
    refine hsl.mono ?_
    clear hsl
    rintro e w10 ⟨rfl, b10⟩
    replace kR := kR.keep b10
    replace hrb := hrb.below b10
    have kP := kP9.keep b10
    have hb10 := hb9.trans (b10.mono hb9.size)
    clear b10 hb9 kP9 k89 z1 y0 y1 y2 y3 y4 y5 y6 y7 y8 y9 lP l89
    obtain ⟨D1, hD1⟩ : ∃ z, D.write SL zero128 = z := ⟨_, rfl⟩
    have HW : Hid (∀ wx A, Below w10.heap.size w10 wx → RB wx A 128 zero128 → Calls Tryd.prog 22 #[P1.d.v, .int .i64 (SL : Int), .slice A 128 128] wx fun e w' => ∃ d' : DV, e = .returned (.tuple #[d'.v, .int .i64 0]) ∧ DkV w' d' D1 ∧ Below wx.heap.size wx w') := hid fun wx A hb hr => by
      rw [HPd.out.1, ← hD1]
      exact write_good p.d D A 128 zero128 SL wx (HDk.out.keep (hb10.trans (hb.mono hb10.size))) (by have := HLim.out; omega) hr (by have := HLim.out; omega)
    have HD1 := hid hD1
    clear hD1
    have lP := kP.lt
    have hgb2 : gb < w10.heap.size := by obtain ⟨b', o', e, hb, _⟩ := hrb.2 (by omega); cases e; exact hb
    obtain ⟨L0, hL0⟩ : ∃ z, w10.heap.size = z := ⟨_, rfl⟩
    have hgb3 : gb < L0 := by omega
    have hsl0 : SL + 8 ≤ 20000 := by have := HLim.out; omega
    go_wp2_with fail
    refine wp_region_headF 100 9 [59, 60, 61, 62, 63, 58, 64, 65, 12] [7] ((fun kq => ([fun u w' => u = .pointer (some ⟨w.heap.size, 0, none⟩), fun u w' => u = P1.d.v, fun u w' => u = .int .i64 (SL : Int), fun u w' => ∃ (gz : Nat), u = .slice (some ⟨gz, 0, none⟩) 128 128 ∧ RB w' (some ⟨gz, 0, none⟩) 128 zero128, fun u w' => ∃ (dx : DV), u = .tuple #[dx.v, .int .i64 0] ∧ DkV w' dx D1, fun u w' => ∃ (dx : DV), u = .tuple #[dx.v, .int .i64 0] ∧ DkV w' dx D1, fun u w' => ∃ (dx : DV), u = dx.v ∧ DkV w' dx D1, fun u w' => u = .int .i64 0, fun u w' => ∃ (b12 : Nat), u = .pointer (some ⟨b12, 0, none⟩) ∧ L0 ≤ b12 ∧ Blk w' b12 27 DV.zero.cs] : List (Value → World → Prop)).getD kq (fun _ _ => True))) (by kernel_rfl) rfl (by kernel_rfl) ?grow ?step ?tail
    case step =>
      simp only [List.take_succ_cons, List.take_zero]
      refine HSteps.cons ?_ ?_
      · intro f w' hb hU
        simp only [putAll, List.foldl_cons, List.foldl_nil]
        go_frame
        go_wp2_with fail
        exact ⟨rfl, _, rfl, Below.refl _ _, rfl⟩
      refine HSteps.cons ?_ ?_
      · intro f w' hb hU
        obtain u0 : f 59 = .pointer (some ⟨w.heap.size, 0, none⟩) := hU.get ⟨0, .data⟩ (by simp) rfl
        obtain ⟨y0, y1, y2, y3, y4, y5, y6, y7, y8, y9⟩ := Pgr.c10 (kP.keep hb)
        simp only [putAll, List.foldl_cons, List.foldl_nil]
        go_frame
        try simp only [u0]
        go_wp2_with fail
        exact ⟨rfl, _, rfl, Below.refl _ _, rfl⟩
      refine HSteps.cons ?_ ?_
      · intro f w' hb hU
        simp only [putAll, List.foldl_cons, List.foldl_nil]
        go_frame
        go_wp2_with fail
        exact ⟨rfl, _, rfl, Below.refl _ _, rfl⟩
      refine HSteps.cons ?_ ?_
      · intro f w' hb hU
        simp only [putAll, List.foldl_cons, List.foldl_nil]
        go_frame
        go_wp2_with (at_make; refine wp_make _ rfl _ _ 40 rfl w'.heap.size 5 _ 1 bytesT rfl .i64 .i64 _ _ 128 rfl rfl rfl rfl (by omega) (by unfold maxLen; omega) (Nat.le_refl _) ?_; intro w5 hown5 r5; go_frame)
        exact ⟨rfl, _, rfl, ((Below.refl _ _).grown r5 (Nat.le_refl _) (fun k hk => by cases hk)), _, rfl, (by have := RL.of_own hown5; rw [byV_zeros] at this; exact this)⟩
      refine HSteps.cons ?_ ?_
      · intro f w' hb hU
        obtain u1 : f 60 = P1.d.v := hU.get ⟨1, .data⟩ (by simp) rfl
        obtain u2 : f 61 = .int .i64 (SL : Int) := hU.get ⟨2, .data⟩ (by simp) rfl
        obtain ⟨gz, u3, v3_0⟩ : ∃ (gz : Nat), f 62 = .slice (some ⟨gz, 0, none⟩) 128 128 ∧ RB w' (some ⟨gz, 0, none⟩) 128 zero128 := hU.get ⟨3, .data⟩ (by simp) rfl
        simp only [putAll, List.foldl_cons, List.foldl_nil]
        go_frame
        try simp only [u1, u2, u3]
        go_wp2_with fail
        refine (HW.out w' _ hb v3_0).mono ?_
        rintro e w3 ⟨dx, rfl, hdx, b3⟩
        go_wp2_with fail
        exact ⟨rfl, _, rfl, b3, dx, rfl, hdx⟩
      refine HSteps.cons ?_ ?_
      · intro f w' hb hU
        obtain ⟨dx, u4, v4_0⟩ : ∃ (dx : DV), f 63 = .tuple #[dx.v, .int .i64 0] ∧ DkV w' dx D1 := hU.get ⟨4, .data⟩ (by simp) rfl
        simp only [putAll, List.foldl_cons, List.foldl_nil]
        go_frame
        try simp only [u4]
        go_wp2_with fail
        exact ⟨rfl, _, rfl, Below.refl _ _, dx, rfl, v4_0⟩
      refine HSteps.cons ?_ ?_
      · intro f w' hb hU
        obtain ⟨dx, u5, v5_0⟩ : ∃ (dx : DV), f 58 = .tuple #[dx.v, .int .i64 0] ∧ DkV w' dx D1 := hU.get ⟨5, .data⟩ (by simp) rfl
        simp only [putAll, List.foldl_cons, List.foldl_nil]
        go_frame
        try simp only [u5]
        go_wp2_with fail
        exact ⟨rfl, _, rfl, Below.refl _ _, dx, rfl, v5_0⟩
      refine HSteps.cons ?_ ?_
      · intro f w' hb hU
        obtain ⟨dx, u5, v5_0⟩ : ∃ (dx : DV), f 58 = .tuple #[dx.v, .int .i64 0] ∧ DkV w' dx D1 := hU.get ⟨5, .data⟩ (by simp) rfl
        simp only [putAll, List.foldl_cons, List.foldl_nil]
        go_frame
        try simp only [u5]
        go_wp2_with fail
        exact ⟨rfl, _, rfl, Below.refl _ _, rfl⟩
      refine HSteps.cons ?_ ?_
      · intro f w' hb hU
        simp only [putAll, List.foldl_cons, List.foldl_nil]
        go_frame
        go_wp2_with ((with_reducible refine is_alloc 27 ?_); refine wp_allocB _ arrDisk ?_; intro w5 k5 b5 s5; go_frame)
        exact ⟨rfl, _, rfl, b5, _, rfl, (by rw [← hL0]; exact hb.size), k5⟩
      exact HSteps.nil
    case grow =>
      intro kq u wa wb hb hu
      rcases kq with _ | _ | _ | _ | _ | _ | _ | _ | _ | kq
      · exact hu
      · exact hu
      · exact hu
      · obtain ⟨gz, ue, uf0⟩ := hu
        exact ⟨gz, ue, uf0.below hb⟩
      · obtain ⟨dx, ue, uf0⟩ := hu
        exact ⟨dx, ue, uf0.keep hb⟩
      · obtain ⟨dx, ue, uf0⟩ := hu
        exact ⟨dx, ue, uf0.keep hb⟩
      · obtain ⟨dx, ue, uf0⟩ := hu
        exact ⟨dx, ue, uf0.keep hb⟩
      · exact hu
      · obtain ⟨b12, ue, uf0, uf1⟩ := hu
        exact ⟨b12, ue, uf0, uf1.keep hb⟩
      · trivial
    case tail =>
      intro f w7 hb7 hU
      obtain ⟨dx, u6, v6_0⟩ : ∃ (dx : DV), f 64 = dx.v ∧ DkV w7 dx D1 := hU.get 6 (by decide)
      obtain u7 : f 65 = .int .i64 0 := hU.get 7 (by decide)
      obtain ⟨b12, u8, v8_0, v8_1⟩ : ∃ (b12 : Nat), f 12 = .pointer (some ⟨b12, 0, none⟩) ∧ L0 ≤ b12 ∧ Blk w7 b12 27 DV.zero.cs := hU.get 8 (by decide)
      simp only [List.drop_succ_cons, List.drop_zero, putAll, List.foldl_cons, List.foldl_nil]
      go_frame
      simp only [u6, u7, u8]
      clear u6 u7 u8
      clear hU
      replace kP := kP.keep hb7
      replace kR := kR.keep hb7
      replace hrb := hrb.below hb7
      have hb11 := hb10.trans (hb7.mono hb10.size)
      clear hb7 hb10 HW lP
      go_wp2_with ((with_reducible refine is_store 27 ?_); refine wp_storeB b12 _ _ dx.cs v8_1 diskN rfl (dv_one _) rfl rfl ?_; intro w12 k12 r12; go_frame)
      refine noPanic_ok ?_
      have hd12 := v6_0.kept (Kept.grown r12 v8_1 notDk)
      replace kP := kP.grown r12 (by simp; omega)
      replace kR := kR.grown r12 (by simp; omega)
      replace hrb := hrb.off r12 (by omega)
      have hb12 := hb11.grown r12 hb11.size (fun z hz => by cases hz; omega)
      clear hb11 r12 v8_1 v6_0
      obtain ⟨x0, x1, x2, x3, x4⟩ := k12.c5
      have l12 := k12.lt
      have R := sync_any dx w12
      dsimp only [DV.v] at R
      go_wp2_with fail
      refine R.mono ?_
      clear R
      rintro e w13 ⟨rfl, b13⟩
      replace kP := kP.keep b13
      replace kR := kR.keep b13
      replace k12 := k12.keep b13
      replace hrb := hrb.below b13
      have hd13 := (hd12.keep b13).sync
      have hb13 := hb12.trans (b13.mono hb12.size)
      clear b13 hb12 hd12 x0 x1 x2 x3 x4 l12
      go_wp2_with ((with_reducible refine is_store 27 ?_); refine wp_storeB b12 _ _ dx.sync.cs k12 diskN rfl (dv_one _) rfl rfl ?_; intro w14 k14 r14; go_frame)
      have hd14 := hd13.kept (Kept.grown r14 k12 notDk)
      replace kP := kP.grown r14 (by simp; omega)
      replace kR := kR.grown r14 (by simp; omega)
      replace hrb := hrb.off r14 (by omega)
      have hb14 := hb13.grown r14 hb13.size (fun z hz => by cases hz; omega)
      clear hb13 r14 k12 hd13
      obtain ⟨DS, hDS⟩ : ∃ z, D1.sync = z := ⟨_, rfl⟩
      have hDSn : SL + 8 ≤ DS.n ∧ DS.W.length = 0 := by
        rw [← hDS, ← HD1.out]
        exact ⟨by show _ ≤ D.n; have := HLim.out; omega, rfl⟩
      rw [hDS] at hd14
      have HDS := hid hDS
      have HDSn := hid hDSn
      clear hDS hDSn
      go_loopw [14] (fun i wr => ∃ (k j : Nat) (dk : DV), j ≤ 7 ∧ Hid (k = j + 1) ∧ i = .int .i64 k ∧ Blk wr b12 27 dk.cs ∧ DkV wr dk (DS.fill SL BT j) ∧ Blk wr w.heap.size 37 P1.cs ∧ Blk wr (w.heap.size + 1) 37 Pgr.zero.cs ∧ RB wr (some ⟨gb, oo, none⟩) 1024 BT ∧ Below w.heap.size w wr) (fun i _ => 8 - (intOf i).toNat)
      case atStart => exact ⟨1, 0, dx.sync, by omega, hid rfl, rfl, k14, hd14, kP, kR, hrb, hb14⟩
      case round =>
        obtain ⟨k, j, dk, hj, HKJ, rfl, kd, hdk, kP, kR, hrb, hbel⟩ := hrel
        have hkj := HKJ.out
        have hk1 : 1 ≤ k ∧ k ≤ 8 := by omega
        clear hkj
        by_cases hlt : k < 8
        · have tk : (k : Int) < 8 := by omega
          have ks : ∀ wx, (Instr.slice 40 (.slice (some ⟨gb, oo, none⟩) 1024 cb) (some (.int .i64 ((k : Int) * 128))) (some (.int .i64 (((k : Int) + 1) * 128))) none).run Tryd.prog wx = .ok (.slice (some ⟨gb, oo + k * 128, none⟩) 128 (cb - k * 128)) wx := fun wx => by
            have := run_part (P := Tryd.prog) 40 5 Tryd.underlying40 bytesN (some ⟨gb, oo, none⟩) 1024 cb (k * 128) ((k + 1) * 128) .i64 .i64 ((k : Int) * 128) (((k : Int) + 1) * 128) (by omega) (by omega) (by omega) (by omega) wx
            rw [if_neg (by omega), show (k + 1) * 128 - k * 128 = 128 by omega] at this
            simpa [add_spot] using this
          have e1 := IntWalk.i64_in ((SL : Int) + k) (by omega)
          have e2 := IntWalk.i64_in ((k : Int) * 128) (by omega)
          have e3 := IntWalk.i64_in ((k : Int) + 1) (by omega)
          have e4 := IntWalk.i64_in (((k : Int) + 1) * 128) (by omega)
          obtain ⟨DN, hDN⟩ : ∃ z, DS.fill SL BT (j + 1) = z := ⟨_, rfl⟩
          have HW : Hid (∀ wx, Below wr.heap.size wr wx → Calls Tryd.prog 22 #[dk.v, .int .i64 ((SL : Int) + (k : Int)), .slice (some ⟨gb, oo + k * 128, none⟩) 128 (cb - k * 128)] wx fun e w' => ∃ d' : DV, e = .returned (.tuple #[d'.v, .int .i64 0]) ∧ DkV w' d' DN ∧ Below wx.heap.size wx w') := hid fun wx hb => by
            have hkj := HKJ.out
            have hDSn := HDSn.out
            have := write_good dk (DS.fill SL BT j) (some ⟨gb, oo + k * 128, none⟩) (cb - k * 128) ((BT.drop (k * 128)).take 128) (SL + k) wx (hdk.keep hb) (by rw [Dk.fill_n]; omega) (RB.sub (hrb.below hb) (k * 128) 128 (by omega)) (by rw [Dk.fill_W]; omega)
            rw [show ((SL + k : Nat) : Int) = (SL : Int) + (k : Int) by omega] at this
            rw [show (DS.fill SL BT j).write (SL + k) ((BT.drop (k * 128)).take 128) = DN by rw [← hDN, hkj]; rfl] at this
            exact this
          have HDN := hid hDN
          clear hDN
          have l12 := kd.lt
          go_wp2_with fail
          refine wp_region_headF 100 15 [73, 74, 75, 76, 77, 78, 79, 80, 81, 82, 83, 84, 72, 85, 86] [14] ((fun kq => ([fun u w' => u = dk.v, fun u w' => u = .int .i64 (SL : Int), fun u w' => u = .int .i64 k, fun u w' => u = .int .i64 ((SL : Int) + (k : Int)), fun u w' => u = .slice (some ⟨gb, oo, none⟩) 1024 cb, fun u w' => u = .int .i64 k, fun u w' => u = .int .i64 ((k : Int) * 128), fun u w' => u = .int .i64 k, fun u w' => u = .int .i64 ((k : Int) + 1), fun u w' => u = .int .i64 (((k : Int) + 1) * 128), fun u w' => u = .slice (some ⟨gb, oo + k * 128, none⟩) 128 (cb - k * 128), fun u w' => ∃ (dy : DV), u = .tuple #[dy.v, .int .i64 0] ∧ DkV w' dy DN, fun u w' => ∃ (dy : DV), u = .tuple #[dy.v, .int .i64 0] ∧ DkV w' dy DN, fun u w' => ∃ (dy : DV), u = dy.v ∧ DkV w' dy DN, fun u w' => u = .int .i64 0] : List (Value → World → Prop)).getD kq (fun _ _ => True))) (by kernel_rfl) rfl (by kernel_rfl) ?grow ?step ?tail
          case step =>
            simp only [List.take_succ_cons, List.take_zero]
            refine HSteps.cons ?_ ?_
            · intro f w' hb hU
              obtain ⟨x0', x1', x2', x3', x4'⟩ := (kd.keep hb).c5
              simp only [putAll, List.foldl_cons, List.foldl_nil]
              go_frame
              go_wp2_with fail
              exact ⟨rfl, _, rfl, Below.refl _ _, rfl⟩
            refine HSteps.cons ?_ ?_
            · intro f w' hb hU
              simp only [putAll, List.foldl_cons, List.foldl_nil]
              go_frame
              go_wp2_with fail
              exact ⟨rfl, _, rfl, Below.refl _ _, rfl⟩
            refine HSteps.cons ?_ ?_
            · intro f w' hb hU
              simp only [putAll, List.foldl_cons, List.foldl_nil]
              go_frame
              go_wp2_with fail
              exact ⟨rfl, _, rfl, Below.refl _ _, rfl⟩
            refine HSteps.cons ?_ ?_
            · intro f w' hb hU
              obtain u1 : f 74 = .int .i64 (SL : Int) := hU.get ⟨1, .data⟩ (by simp) rfl
              obtain u2 : f 75 = .int .i64 k := hU.get ⟨2, .data⟩ (by simp) rfl
              simp only [putAll, List.foldl_cons, List.foldl_nil]
              go_frame
              try simp only [u1, u2]
              go_wp2_with fail
              exact ⟨rfl, _, rfl, Below.refl _ _, rfl⟩
            refine HSteps.cons ?_ ?_
            · intro f w' hb hU
              simp only [putAll, List.foldl_cons, List.foldl_nil]
              go_frame
              go_wp2_with fail
              exact ⟨rfl, _, rfl, Below.refl _ _, rfl⟩
            refine HSteps.cons ?_ ?_
            · intro f w' hb hU
              simp only [putAll, List.foldl_cons, List.foldl_nil]
              go_frame
              go_wp2_with fail
              exact ⟨rfl, _, rfl, Below.refl _ _, rfl⟩
            refine HSteps.cons ?_ ?_
            · intro f w' hb hU
              obtain u5 : f 78 = .int .i64 k := hU.get ⟨5, .data⟩ (by simp) rfl
              simp only [putAll, List.foldl_cons, List.foldl_nil]
              go_frame
              try simp only [u5]
              go_wp2_with fail
              exact ⟨rfl, _, rfl, Below.refl _ _, rfl⟩
            refine HSteps.cons ?_ ?_
            · intro f w' hb hU
              simp only [putAll, List.foldl_cons, List.foldl_nil]
              go_frame
              go_wp2_with fail
              exact ⟨rfl, _, rfl, Below.refl _ _, rfl⟩
            refine HSteps.cons ?_ ?_
            · intro f w' hb hU
              obtain u7 : f 80 = .int .i64 k := hU.get ⟨7, .data⟩ (by simp) rfl
              simp only [putAll, List.foldl_cons, List.foldl_nil]
              go_frame
              try simp only [u7]
              go_wp2_with fail
              exact ⟨rfl, _, rfl, Below.refl _ _, rfl⟩
            refine HSteps.cons ?_ ?_
            · intro f w' hb hU
              obtain u8 : f 81 = .int .i64 ((k : Int) + 1) := hU.get ⟨8, .data⟩ (by simp) rfl
              simp only [putAll, List.foldl_cons, List.foldl_nil]
              go_frame
              try simp only [u8]
              go_wp2_with fail
              exact ⟨rfl, _, rfl, Below.refl _ _, rfl⟩
            refine HSteps.cons ?_ ?_
            · intro f w' hb hU
              obtain u4 : f 77 = .slice (some ⟨gb, oo, none⟩) 1024 cb := hU.get ⟨4, .data⟩ (by simp) rfl
              obtain u6 : f 79 = .int .i64 ((k : Int) * 128) := hU.get ⟨6, .data⟩ (by simp) rfl
              obtain u9 : f 82 = .int .i64 (((k : Int) + 1) * 128) := hU.get ⟨9, .data⟩ (by simp) rfl
              simp only [putAll, List.foldl_cons, List.foldl_nil]
              go_frame
              try simp only [u4, u6, u9]
              go_wp2_with fail
              exact ⟨rfl, _, rfl, Below.refl _ _, rfl⟩
            refine HSteps.cons ?_ ?_
            · intro f w' hb hU
              obtain u0 : f 73 = dk.v := hU.get ⟨0, .data⟩ (by simp) rfl
              obtain u3 : f 76 = .int .i64 ((SL : Int) + (k : Int)) := hU.get ⟨3, .data⟩ (by simp) rfl
              obtain u10 : f 83 = .slice (some ⟨gb, oo + k * 128, none⟩) 128 (cb - k * 128) := hU.get ⟨10, .data⟩ (by simp) rfl
              simp only [putAll, List.foldl_cons, List.foldl_nil]
              go_frame
              try simp only [u0, u3, u10]
              go_wp2_with fail
              refine (HW.out w' hb).mono ?_
              rintro e w3 ⟨dy, rfl, hdy, b3⟩
              go_wp2_with fail
              exact ⟨rfl, _, rfl, b3, dy, rfl, hdy⟩
            refine HSteps.cons ?_ ?_
            · intro f w' hb hU
              obtain ⟨dy, u11, v11_0⟩ : ∃ (dy : DV), f 84 = .tuple #[dy.v, .int .i64 0] ∧ DkV w' dy DN := hU.get ⟨11, .data⟩ (by simp) rfl
              simp only [putAll, List.foldl_cons, List.foldl_nil]
              go_frame
              try simp only [u11]
              go_wp2_with fail
              exact ⟨rfl, _, rfl, Below.refl _ _, dy, rfl, v11_0⟩
            refine HSteps.cons ?_ ?_
            · intro f w' hb hU
              obtain ⟨dy, u12, v12_0⟩ : ∃ (dy : DV), f 72 = .tuple #[dy.v, .int .i64 0] ∧ DkV w' dy DN := hU.get ⟨12, .data⟩ (by simp) rfl
              simp only [putAll, List.foldl_cons, List.foldl_nil]
              go_frame
              try simp only [u12]
              go_wp2_with fail
              exact ⟨rfl, _, rfl, Below.refl _ _, dy, rfl, v12_0⟩
            refine HSteps.cons ?_ ?_
            · intro f w' hb hU
              obtain ⟨dy, u12, v12_0⟩ : ∃ (dy : DV), f 72 = .tuple #[dy.v, .int .i64 0] ∧ DkV w' dy DN := hU.get ⟨12, .data⟩ (by simp) rfl
              simp only [putAll, List.foldl_cons, List.foldl_nil]
              go_frame
              try simp only [u12]
              go_wp2_with fail
              exact ⟨rfl, _, rfl, Below.refl _ _, rfl⟩
            exact HSteps.nil
          case grow =>
            intro kq u wa wb hb hu
            rcases kq with _ | _ | _ | _ | _ | _ | _ | _ | _ | _ | _ | _ | _ | _ | _ | kq
            · exact hu
            · exact hu
            · exact hu
            · exact hu
            · exact hu
            · exact hu
            · exact hu
            · exact hu
            · exact hu
            · exact hu
            · exact hu
            · obtain ⟨dy, ue, uf0⟩ := hu
              exact ⟨dy, ue, uf0.keep hb⟩
            · obtain ⟨dy, ue, uf0⟩ := hu
              exact ⟨dy, ue, uf0.keep hb⟩
            · obtain ⟨dy, ue, uf0⟩ := hu
              exact ⟨dy, ue, uf0.keep hb⟩
            · exact hu
            · trivial
          case tail =>
            intro f w7 hb7 hU
            obtain ⟨dy, u13, v13_0⟩ : ∃ (dy : DV), f 85 = dy.v ∧ DkV w7 dy DN := hU.get 13 (by decide)
            simp only [List.drop_succ_cons, List.drop_zero, putAll, List.foldl_cons, List.foldl_nil]
            go_frame
            simp only [u13]
            clear u13
            clear hU
            replace kP := kP.keep hb7
            replace kR := kR.keep hb7
            replace kd := kd.keep hb7
            replace hrb := hrb.below hb7
            have hb11 := hbel.trans (hb7.mono hbel.size)
            clear hb7 hbel HW l12 e1 e2 e3 e4 ks
            go_wp2_with ((with_reducible refine is_store 27 ?_); refine wp_storeB b12 _ _ dy.cs kd diskN rfl (dv_one _) rfl rfl ?_; intro w15 k15 r15; go_frame)
            refine noPanic_ok ?_
            have hd15 := v13_0.kept (Kept.grown r15 kd notDk)
            replace kP := kP.grown r15 (by simp; omega)
            replace kR := kR.grown r15 (by simp; omega)
            replace hrb := hrb.off r15 (by omega)
            have hb15 := hb11.grown r15 hb11.size (fun z hz => by cases hz; omega)
            clear hb11 r15 kd v13_0 hdk
            rw [← HDN.out] at hd15
            go_wp2_with fail
            go_roundw
            case measure => simp [intOf]; omega
            case rel => exact ⟨k + 1, j + 1, dy, by have := HKJ.out; omega, hid (by have := HKJ.out; omega), by go_num, k15, hd15, kP, kR, hrb, hb15⟩
        · have HE : Hid (j = 7) := hid (by have := HKJ.out; omega)
          obtain ⟨DK, hDK⟩ : ∃ z, DS.fill SL BT j = z := ⟨_, rfl⟩
          rw [hDK] at hdk
          have hDKn : SL + 8 ≤ DK.n := by rw [← hDK, Dk.fill_n]; exact HDSn.out.1
          have HDK := hid hDK
          clear hDK
          have HSy : Hid (∀ wx, Calls Tryd.prog 23 #[dk.v] wx fun e w' => e = .returned dk.sync.v ∧ Below wx.heap.size wx w') := hid fun wx => sync_any dk wx
          obtain ⟨DN, hDN⟩ : ∃ z, DK.sync.write SL (BT.take 128) = z := ⟨_, rfl⟩
          have HW : Hid (∀ wx, Below wr.heap.size wr wx → Calls Tryd.prog 22 #[dk.sync.v, .int .i64 (SL : Int), .slice (some ⟨gb, oo, none⟩) 128 cb] wx fun e w' => ∃ d' : DV, e = .returned (.tuple #[d'.v, .int .i64 0]) ∧ DkV w' d' DN ∧ Below wx.heap.size wx w') := hid fun wx hb => by
            have := write_good dk.sync DK.sync (some ⟨gb, oo, none⟩) cb (BT.take 128) SL wx (hdk.keep hb).sync (by show SL < DK.n; omega) (by have := RB.sub (hrb.below hb) 0 128 (by omega); simpa using this) (by show (0 : Nat) < _; omega)
            rw [hDN] at this
            exact this
          have HDN := hid hDN
          clear hDN
          have l12 := kd.lt
          go_wp2_with fail
          refine wp_region_headF 100 9 [88, 89, 90, 91, 92, 93, 87, 94, 95] [8] ((fun kq => ([fun u w' => u = dk.v, fun u w' => u = dk.sync.v, fun u w' => u = .int .i64 (SL : Int), fun u w' => u = .slice (some ⟨gb, oo, none⟩) 1024 cb, fun u w' => u = .slice (some ⟨gb, oo, none⟩) 128 cb, fun u w' => ∃ (dy : DV), u = .tuple #[dy.v, .int .i64 0] ∧ DkV w' dy DN, fun u w' => ∃ (dy : DV), u = .tuple #[dy.v, .int .i64 0] ∧ DkV w' dy DN, fun u w' => ∃ (dy : DV), u = dy.v ∧ DkV w' dy DN, fun u w' => u = .int .i64 0] : List (Value → World → Prop)).getD kq (fun _ _ => True))) (by kernel_rfl) rfl (by kernel_rfl) ?grow ?step ?tail
          case step =>
            simp only [List.take_succ_cons, List.take_zero]
            refine HSteps.cons ?_ ?_
            · intro f w' hb hU
              obtain ⟨x0', x1', x2', x3', x4'⟩ := (kd.keep hb).c5
              simp only [putAll, List.foldl_cons, List.foldl_nil]
              go_frame
              go_wp2_with fail
              exact ⟨rfl, _, rfl, Below.refl _ _, rfl⟩
            refine HSteps.cons ?_ ?_
            · intro f w' hb hU
              obtain u0 : f 88 = dk.v := hU.get ⟨0, .data⟩ (by simp) rfl
              simp only [putAll, List.foldl_cons, List.foldl_nil]
              go_frame
              try simp only [u0]
              go_wp2_with fail
              refine (HSy.out w').mono ?_
              rintro e w3 ⟨rfl, b3⟩
              go_wp2_with fail
              exact ⟨rfl, _, rfl, b3, rfl⟩
            refine HSteps.cons ?_ ?_
            · intro f w' hb hU
              simp only [putAll, List.foldl_cons, List.foldl_nil]
              go_frame
              go_wp2_with fail
              exact ⟨rfl, _, rfl, Below.refl _ _, rfl⟩
            refine HSteps.cons ?_ ?_
            · intro f w' hb hU
              simp only [putAll, List.foldl_cons, List.foldl_nil]
              go_frame
              go_wp2_with fail
              exact ⟨rfl, _, rfl, Below.refl _ _, rfl⟩
            refine HSteps.cons ?_ ?_
            · intro f w' hb hU
              obtain u3 : f 91 = .slice (some ⟨gb, oo, none⟩) 1024 cb := hU.get ⟨3, .data⟩ (by simp) rfl
              simp only [putAll, List.foldl_cons, List.foldl_nil]
              go_frame
              try simp only [u3]
              go_wp2_with fail
              exact ⟨rfl, _, rfl, Below.refl _ _, rfl⟩
            refine HSteps.cons ?_ ?_
            · intro f w' hb hU
              obtain u1 : f 89 = dk.sync.v := hU.get ⟨1, .data⟩ (by simp) rfl
              obtain u2 : f 90 = .int .i64 (SL : Int) := hU.get ⟨2, .data⟩ (by simp) rfl
              obtain u4 : f 92 = .slice (some ⟨gb, oo, none⟩) 128 cb := hU.get ⟨4, .data⟩ (by simp) rfl
              simp only [putAll, List.foldl_cons, List.foldl_nil]
              go_frame
              try simp only [u1, u2, u4]
              go_wp2_with fail
              refine (HW.out w' hb).mono ?_
              rintro e w3 ⟨dy, rfl, hdy, b3⟩
              go_wp2_with fail
              exact ⟨rfl, _, rfl, b3, dy, rfl, hdy⟩
            refine HSteps.cons ?_ ?_
            · intro f w' hb hU
              obtain ⟨dy, u5, v5_0⟩ : ∃ (dy : DV), f 93 = .tuple #[dy.v, .int .i64 0] ∧ DkV w' dy DN := hU.get ⟨5, .data⟩ (by simp) rfl
              simp only [putAll, List.foldl_cons, List.foldl_nil]
              go_frame
              try simp only [u5]
              go_wp2_with fail
              exact ⟨rfl, _, rfl, Below.refl _ _, dy, rfl, v5_0⟩
            refine HSteps.cons ?_ ?_
            · intro f w' hb hU
              obtain ⟨dy, u6, v6_0⟩ : ∃ (dy : DV), f 87 = .tuple #[dy.v, .int .i64 0] ∧ DkV w' dy DN := hU.get ⟨6, .data⟩ (by simp) rfl
              simp only [putAll, List.foldl_cons, List.foldl_nil]
              go_frame
              try simp only [u6]
              go_wp2_with fail
              exact ⟨rfl, _, rfl, Below.refl _ _, dy, rfl, v6_0⟩
            refine HSteps.cons ?_ ?_
            · intro f w' hb hU
              obtain ⟨dy, u6, v6_0⟩ : ∃ (dy : DV), f 87 = .tuple #[dy.v, .int .i64 0] ∧ DkV w' dy DN := hU.get ⟨6, .data⟩ (by simp) rfl
              simp only [putAll, List.foldl_cons, List.foldl_nil]
              go_frame
              try simp only [u6]
              go_wp2_with fail
              exact ⟨rfl, _, rfl, Below.refl _ _, rfl⟩
            exact HSteps.nil
          case grow =>
            intro kq u wa wb hb hu
            rcases kq with _ | _ | _ | _ | _ | _ | _ | _ | _ | kq
            · exact hu
            · exact hu
            · exact hu
            · exact hu
            · exact hu
            · obtain ⟨dy, ue, uf0⟩ := hu
              exact ⟨dy, ue, uf0.keep hb⟩
            · obtain ⟨dy, ue, uf0⟩ := hu
              exact ⟨dy, ue, uf0.keep hb⟩
            · obtain ⟨dy, ue, uf0⟩ := hu
              exact ⟨dy, ue, uf0.keep hb⟩
            · exact hu
            · trivial
          case tail =>
            intro f w7 hb7 hU
            obtain ⟨dy, u7, v7_0⟩ : ∃ (dy : DV), f 94 = dy.v ∧ DkV w7 dy DN := hU.get 7 (by decide)
            simp only [List.drop_succ_cons, List.drop_zero, putAll, List.foldl_cons, List.foldl_nil]
            go_frame
            simp only [u7]
            clear u7
            clear hU
            replace kP := kP.keep hb7
            replace kR := kR.keep hb7
            replace kd := kd.keep hb7
            have hb11 := hbel.trans (hb7.mono hbel.size)
            clear hb7 hbel HW HSy l12 hrb
            go_wp2_with ((with_reducible refine is_store 27 ?_); refine wp_storeB b12 _ _ dy.cs kd diskN rfl (dv_one _) rfl rfl ?_; intro w15 k15 r15; go_frame)
            refine noPanic_ok ?_
            have hd15 := v7_0.kept (Kept.grown r15 kd notDk)
            replace kP := kP.grown r15 (by simp; omega)
            replace kR := kR.grown r15 (by simp; omega)
            have hb15 := hb11.grown r15 hb11.size (fun z hz => by cases hz; omega)
            clear hb11 r15 kd v7_0 hdk
            obtain ⟨x0, x1, x2, x3, x4⟩ := k15.c5
            have l15 := k15.lt
            have R := sync_any dy w15
            dsimp only [DV.v] at R
            go_wp2_with fail
            refine R.mono ?_
            clear R
            rintro e w16 ⟨rfl, b16⟩
            replace kP := kP.keep b16
            replace kR := kR.keep b16
            have hd16 := (hd15.keep b16).sync
            have hb16 := hb15.trans (b16.mono hb15.size)
            clear b16 hb15 hd15 x0 x1 x2 x3 x4 l15 k15
            have hok2 : (P1.on dy.sync).ok := Pgr.on_ok hPok _
            have hcs := Pgr.on_cs P1 dy.sync
            have lP := kP.lt
            go_wp2_with (first
              | ((with_reducible refine is_store 27 ?_); refine wp_storeO w.heap.size 0 _ P1.cs dy.sync.cs dy.sync.v kP rfl (diskN.trans rfl) (by rw [Pgr.cs_len hPok]; show 0 + 5 ≤ _; omega) (dv_one _) rfl rfl ?_; intro w17 k17 r17; go_frame; rw [show dy.sync.cs.length = 5 from rfl, hcs] at k17)
              | ((with_reducible refine is_load 37 ?_); refine wp_loadP w.heap.size (P1.on dy.sync) hok2 k17 rfl ?_; go_frame)
              | ((with_reducible refine is_store 37 ?_); refine wp_storeP (w.heap.size + 1) _ (P1.on dy.sync) hok2 (kR.grown r17 (by simp)) (by rw [Pgr.cs_len Pgr.zero_ok]) rfl rfl ?_; intro w18 k18 r18; go_frame))
            have kR17 := kR.grown r17 (by simp)
            have hb17 := hb16.grown r17 hb16.size (fun g hg => by cases hg; omega)
            have hd17 := hd16.kept (Kept.grown r17 kP (by unfold dkT; decide))
            have hd18 := hd17.kept (Kept.grown r18 kR17 (by unfold dkT; decide))
            refine bodyPost_ret (results_P2 Tryd.results30 _ _ (w.heap.size + 1) _ hok2 rfl k18) rfl ⟨dy.sync, ?_, ?_, hb17.grown r18 hb17.size (fun g hg => by cases hg; omega)⟩
            · rw [← HP1.out]
              rfl
            · rw [← HDN.out, ← HDK.out, HE.out, ← HDS.out, ← HD1.out, ← HSL.out, ← HBT.out, ← HRB.out] at hd18
              exact hd18
end Go.Proofs.YtanglofabkbllaaDoor
