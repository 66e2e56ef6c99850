/- States of package pager as values; stored, walked. Conditions: the pager fits its disk. -/
import Derived.Test.YtanglofabkbllaaDoorPgRead
import Derived.Test.YtanglofabkbllaaDoorRootPg
import Derived.Test.YtanglofabkbllaaDoorRoot
import Derived.Laws.Tables
set_option linter.unusedSimpArgs false
set_option linter.unusedVariables false
namespace Go.Proofs.YtanglofabkbllaaDoor
open Go.RowKit

/-- a state -/
structure Sta where
  (root num : Nat) (mt nu : List UInt8)
def Sta.cs (s : Sta) : List Value := stCs s.root s.num s.mt s.nu
def Sta.v (s : Sta) : Value := .agg s.cs.toArray
def Sta.zero : Sta := ⟨0, 0, [], zeros128⟩
structure Sta.ok (s : Sta) : Prop where
  root : s.root < 65536
  num : s.num < 18446744073709551616
  mt : s.mt.length ≤ 256
  nu : s.nu.length = 128
theorem Sta.zero_ok : Sta.zero.ok := ⟨by simp [Sta.zero], by simp [Sta.zero], by simp [Sta.zero], by simp [Sta.zero, zeros128]⟩
theorem Sta.cs_len {s : Sta} (h : s.ok) : s.cs.length = 131 := by simp [Sta.cs, stCs, h.nu]
theorem Sta.one (s : Sta) : ∀ v ∈ s.cs, v.oneCell' = true := by
  intro v hv
  simp only [Sta.cs, stCs, List.mem_append, List.mem_cons, List.not_mem_nil, or_false, List.mem_map] at hv
  rcases hv with (rfl | rfl | rfl) | ⟨b, _, rfl⟩ <;> rfl
set_option maxRecDepth 100000 in
theorem arrSta : ArrT Tryd.prog 35 Sta.zero.cs := (by kernel_rfl : (Tryd.prog.info? 35).map (fun i => (i.zero, i.size)) = some (some (.agg Sta.zero.cs.toArray), 131))
theorem staN : (Tryd.prog.info? 35).map (·.size) = some 131 := by kernel_rfl
section
variable {ops : Array Oper} {rest : List Oper} {Q : Exit → Act → World → Prop} {a : Act} {w : World} {ty : TypeId} {ps : String} {af : Array Edge} {d : Option Tmp} {x y : Operand}
theorem wp_loadS (g : Nat) (s : Sta) (hs : s.ok) (hg : Blk w g 35 s.cs) (hx : a.eval x = .pointer (some ⟨g, 0, none⟩))
    (h : wpList Tryd.prog ops Q rest (a.put d s.v) w) : wpList Tryd.prog ops Q (⟨d, Op.load 35 x, ty, ps, af, none⟩ :: rest) a w :=
  wpList_load_row rfl 35 x rfl g hx 35 s.cs.toArray (0, 0) _ hg Tryd.underlying35 rfl (staN.trans (by simp [Sta.cs_len hs])) h
theorem wp_storeS (g : Nat) (cur : List Value) (s : Sta) (hs : s.ok) (hg : Blk w g 35 cur) (hl : cur.length = 131) (hx : a.eval x = .pointer (some ⟨g, 0, none⟩)) (hy : a.eval y = s.v)
    (h : ∀ w', Blk w' g 35 s.cs → w.grownBy w' (some g) → wpList Tryd.prog ops Q rest (a.put none undef) w') : wpList Tryd.prog ops Q (⟨none, Op.store 35 x y, ty, ps, af, none⟩ :: rest) a w :=
  wp_storeB g 35 cur s.cs hg (staN.trans (by simp [Sta.cs_len hs])) (by rw [hl, Sta.cs_len hs]) s.one hx hy h
theorem built0 : Tryd.prog.built 35 [] = some Sta.zero.cs.toArray := by kernel_rfl
theorem wp_buildS0 (h : wpList Tryd.prog ops Q rest (a.put d Sta.zero.v) w) : wpList Tryd.prog ops Q (⟨d, Op.build 35 #[], ty, ps, af, none⟩ :: rest) a w := by
  have e : ∀ l : List (Nat × Value), l = [] → Tryd.prog.built 35 l = some Sta.zero.cs.toArray := by
    rintro l rfl
    exact built0
  refine wpList_build rfl 35 #[] rfl (by rw [e _ (by simp)]; simp) ?_
  rw [e _ (by simp)]
  exact h
theorem wp_buildSZ (Z : Sta) (hZ : Hid (Z = Sta.zero)) (h : wpList Tryd.prog ops Q rest (a.put d Z.v) w) : wpList Tryd.prog ops Q (⟨d, Op.build 35 #[], ty, ps, af, none⟩ :: rest) a w := by
  rw [hZ.out] at h
  exact wp_buildS0 h
theorem built3 (root num : Int) (mt : ByteArray) : Tryd.prog.built 35 [(0, .int .i64 root), (1, .int .u64 num), (2, .string mt)] = some ([Value.int .i64 root, Value.int .u64 num, Value.string mt] ++ zeros128.map byV).toArray := by kernel_rfl
theorem wp_buildS3 {x y z : Operand} (root num : Nat) (mt : List UInt8) (hx : a.eval x = .int .i64 root) (hy : a.eval y = .int .u64 num) (hz : a.eval z = .string ⟨mt.toArray⟩) (h : wpList Tryd.prog ops Q rest (a.put d (Sta.mk root num mt zeros128).v) w) : wpList Tryd.prog ops Q (⟨d, Op.build 35 #[(0, x), (1, y), (2, z)], ty, ps, af, none⟩ :: rest) a w := by
  have e : ∀ l : List (Nat × Value), l = [(0, .int .i64 root), (1, .int .u64 num), (2, .string ⟨mt.toArray⟩)] → Tryd.prog.built 35 l = some (Sta.mk root num mt zeros128).cs.toArray := by
    rintro l rfl
    exact built3 _ _ _
  refine wpList_build rfl 35 _ rfl (by rw [e _ (by simp [hx, hy, hz])]; simp) ?_
  rw [e _ (by simp [hx, hy, hz])]
  exact h
theorem run_loadS (w : World) (g : Nat) (s : Sta) (hs : s.ok) (hg : Blk w g 35 s.cs) : (loadVar 35 ⟨g, 0, none⟩).run Tryd.prog w = .ok s.v w :=
  run_loadVar_row w g 35 35 s.cs.toArray (0, 0) _ hg Tryd.underlying35 rfl (staN.trans (by simp [Sta.cs_len hs]))
theorem results_S2 {fn : Func} {i u : Tmp} (h : fn.results = #[.cell i 35, .tmp u]) (tmps : Array Value) (w : World) (g : Nat) (s : Sta) (hs : s.ok) (hi : tmps.getD i undef = .pointer (some ⟨g, 0, none⟩)) (hg : Blk w g 35 s.cs) :
    (results fn tmps).run Tryd.prog w = .ok (.tuple #[s.v, tmps.getD u undef]) w := by
  rw [results_cell_tmp h, hi]
  simp [asAddr, run_loadS w g s hs hg, Result.andThen]
end
theorem RB.off {w w' : World} {b o n g : Nat} {l : List UInt8} (h : RB w (some ⟨b, o, none⟩) n l) (r : w.grownBy w' (some g)) (hne : ¬ b = g) : RB w' (some ⟨b, o, none⟩) n l := by
  refine ⟨h.1, fun hn => ?_⟩
  obtain ⟨b', o', e, hb, hc⟩ := h.2 hn
  cases e
  exact ⟨b, o, rfl, Nat.lt_of_lt_of_le hb r.size, fun j u hu => r.cell (hc j u hu) (by simp; omega)⟩
theorem sta_fill (root num : Nat) (mt cu : List UInt8) (n : Nat) (hn : n = 128) (hc : cu.length = 128) : (Sta.mk root num mt zeros128).cs.take 3 ++ (cu.map byV).take (min n 128) ++ (Sta.mk root num mt zeros128).cs.drop (3 + min n 128) = (Sta.mk root num mt cu).cs := by
  subst hn
  rw [Nat.min_self, List.take_of_length_le (l := cu.map byV) (by simp [hc]), List.drop_of_length_le (by simp [Sta.cs, stCs, zeros128])]
  unfold Sta.cs stCs
  dsimp only
  rw [List.append_nil]
  rfl
/-- the metadata's length that a root page's body tells -/
def mlen (b : List UInt8) : Nat := num ((b.drop 2).take 2)
/-- no used page outside of the store -/
def within (cu : List UInt8) (pages : Nat) : Prop := ∀ i, i < 1024 → bit cu i = true → 1 ≤ i ∧ i ≤ pages
/-- the root's number is 0 or that of a used page -/
def rootIn (cu : List UInt8) (root pages : Nat) : Prop := root = 0 ∨ (root ≤ pages ∧ bit cu root = true)
open Classical in
/-- what a root slot holds -/
noncomputable def storedOf (d : Dec) (par pages : Nat) : Option Sta :=
  if d.err ≠ 0 ∨ d.id ≠ 0 ∨ d.kind ≠ 2 ∨ d.stamp = 0 ∨ d.stamp % 2 ≠ par then none
  else if d.body.length < 108 then none
  else if 256 < mlen d.body ∨ d.body.length ≠ 108 + mlen d.body + 128 then none
  else if (d.body.drop 4).take 104 ≠ List.replicate 104 0 then none
  else if ¬ within (d.body.drop (108 + mlen d.body)) pages then none
  else if ¬ rootIn (d.body.drop (108 + mlen d.body)) (num (d.body.take 2)) pages then none
  else some ⟨num (d.body.take 2), d.stamp, (d.body.drop 108).take (mlen d.body), d.body.drop (108 + mlen d.body)⟩
open Classical in
theorem stored_end (Ds r pages m root : Nat) (Db mt cu : List UInt8) (h1 : Ds ≠ 0) (h2 : Ds % 2 = r) (h3 : Db.length = 108 + m + 128) (h4 : m ≤ 256) (h5 : mlen Db = m) (h6 : (Db.drop 4).take 104 = List.replicate 104 0) (h7 : num (Db.take 2) = root) (h8 : (Db.drop 108).take m = mt) (h9 : Db.drop (108 + m) = cu) :
    (¬ within cu pages → storedOf ⟨0, Ds, 2, Db, 0⟩ r pages = none) ∧ (within cu pages → ¬ rootIn cu root pages → storedOf ⟨0, Ds, 2, Db, 0⟩ r pages = none) ∧ (within cu pages → rootIn cu root pages → storedOf ⟨0, Ds, 2, Db, 0⟩ r pages = some ⟨root, Ds, mt, cu⟩) := by
  have e : storedOf ⟨0, Ds, 2, Db, 0⟩ r pages = if ¬ within cu pages then none else if ¬ rootIn cu root pages then none else some ⟨root, Ds, mt, cu⟩ := by
    unfold storedOf
    dsimp only
    rw [h5, h7, h8, h9, if_neg (by simp [h1, h2]), if_neg (by omega), if_neg (by omega), if_neg (by rw [h6]; exact fun h => h rfl)]
  rw [e]
  exact ⟨fun h => by rw [if_pos h], fun h h' => by rw [if_neg (fun g => g h), if_pos h'], fun h h' => by rw [if_neg (fun g => g h), if_neg (fun g => g h')]⟩
set_option maxRecDepth 100000 in
set_option maxHeartbeats 8000000 in
theorem stored_any (p : Pgr) (D : Dk) (par : Nat) (w : World) (hp : p.ok) (hT : Tab w) (hd : DkV w p.d D) (hpar : par < 2) (hD : p.sec + 16 ≤ D.n) :
    Calls Tryd.prog 44 #[p.v, .int .u64 par] w fun e w' => ∃ (s : Sta) (b : Bool), e = .returned (.tuple #[s.v, .bool b]) ∧ s.ok ∧ (storedOf (decoded (secs D.cur (p.sec + 8 * par) 8)) par p.pgs = if b then some s else none) ∧ Below w.heap.size w w' := by
  have hpg := hp.pgs
  have HSl : Hid (∀ wx, Calls Tryd.prog 42 #[p.v, .int .u64 par] wx fun e w' => e = .returned (.int .i64 ((p.sec + 8 * par : Nat) : Int)) ∧ Below wx.heap.size wx w') := fun wx => by
    have := slot_any p par wx hp (by omega)
    rwa [Nat.mod_eq_of_lt hpar] at this
  have HRd : Hid (∀ wx, Below (w.heap.size + 1) (w.alloc (.cells p.cs.toArray 37)) wx → Calls Tryd.prog 49 #[p.d.v, .int .i64 ((p.sec + 8 * par : Nat) : Int)] wx fun e w' => ∃ q : Pg, e = .returned (.tuple #[q.v, .int .i64 (decoded (secs D.cur (p.sec + 8 * par) 8)).err]) ∧ Reads w' q (decoded (secs D.cur (p.sec + 8 * par) 8)) ∧ Below wx.heap.size wx w') := fun wx hb => by
    have ha : Below w.heap.size w (w.alloc (.cells p.cs.toArray 37)) := (Below.refl _ _).alloc (Nat.le_refl _) _
    have hb' := ha.trans (hb.mono (by omega))
    exact pread_good p.d D _ wx (hT.keep hb') (hd.keep hb') (by omega)
  obtain ⟨Z, hZ⟩ : ∃ z, z = Sta.zero := ⟨_, rfl⟩
  have HZ := hid hZ
  have HZok : Z.ok := by rw [hZ]; exact Sta.zero_ok
  clear hZ
  generalize p.sec + 8 * par = PL at *
  generalize decoded (secs D.cur PL 8) = DD at *
  clear hd hD
  go_enter Tryd.func44, Tryd.ntmps44
  unfold Pgr.v
  have hP : Blk (w.alloc (.cells p.cs.toArray 37)) w.heap.size 37 p.cs := Blk.new w _ _
  have hB : Below w.heap.size w (w.alloc (.cells p.cs.toArray 37)) := (Below.refl _ _).alloc (Nat.le_refl _) _
  have hs : (w.alloc (.cells p.cs.toArray 37)).heap.size = w.heap.size + 1 := by simp
  go_wp2_with ((with_reducible refine is_alloc 35 ?_); refine wp_allocN (w.heap.size + 1) hs _ arrSta ?_; intro wr kS b2 s2; go_frame)
  obtain ⟨V4, hV⟩ : ∃ z, z = Value.pointer (some ⟨w.heap.size + 1, 0, none⟩) := ⟨_, rfl⟩
  rw [← hV]
  have HV := hid hV
  clear hV
  replace hP := hP.below b2 (by omega)
  have hbel := hB.trans (b2.mono (by omega))
  replace HRd := hid (fun wx (hb : Below wr.heap.size wr wx) => HRd.out wx (b2.trans (hb.mono (by have := b2.size; omega))))
  have lP := hP.lt
  have lS := kS.lt
  clear hB b2 s2 hs
  refine wp_region_headF 137 10 [15, 16, 17, 18, 19, 20, 14, 21, 22, 6] [8] ((fun kq => ([fun u w' => u = .pointer (some ⟨w.heap.size, 0, none⟩), fun u w' => u = p.d.v, fun u w' => u = p.v, fun u w' => u = .int .u64 par, fun u w' => u = .int .i64 (PL : Int), fun u w' => ∃ (q : Pg), u = .tuple #[q.v, .int .i64 DD.err] ∧ Reads w' q DD, fun u w' => ∃ (q : Pg), u = .tuple #[q.v, .int .i64 DD.err] ∧ Reads w' q DD, fun u w' => ∃ (q : Pg), u = q.v ∧ Reads w' q DD, fun u w' => u = .int .i64 DD.err, fun u w' => ∃ (b6 : Nat), u = .pointer (some ⟨b6, 0, none⟩) ∧ wr.heap.size ≤ b6 ∧ Blk w' b6 85 noPg.cs] : List (Value → World → Prop)).getD kq (fun _ _ => True))) (by kernel_rfl) rfl (by kernel_rfl) ?grow ?step ?tail
  case step =>
    simp only [List.take_succ_cons, List.take_zero]
    refine HSteps.cons ?_ ?_
    · intro f w' hb hU
      simp only [putAll, List.foldl_cons, List.foldl_nil]
      go_frame
      go_wp2_with fail
      exact ⟨rfl, _, rfl, Below.refl _ _, rfl⟩
    refine HSteps.cons ?_ ?_
    · intro f w' hb hU
      obtain u0 : f 15 = .pointer (some ⟨w.heap.size, 0, none⟩) := hU.get ⟨0, .data⟩ (by simp) rfl
      obtain ⟨y0, y1, y2, y3, y4, y5, y6, y7, y8, y9⟩ := Pgr.c10 (hP.keep hb)
      simp only [putAll, List.foldl_cons, List.foldl_nil]
      go_frame
      try simp only [u0]
      go_wp2_with fail
      exact ⟨rfl, _, rfl, Below.refl _ _, rfl⟩
    refine HSteps.cons ?_ ?_
    · intro f w' hb hU
      simp only [putAll, List.foldl_cons, List.foldl_nil]
      go_frame
      go_wp2_with ((with_reducible refine is_load 37 ?_); refine wp_loadP w.heap.size p hp (hP.keep hb) rfl ?_; go_frame)
      exact ⟨rfl, _, rfl, Below.refl _ _, rfl⟩
    refine HSteps.cons ?_ ?_
    · intro f w' hb hU
      simp only [putAll, List.foldl_cons, List.foldl_nil]
      go_frame
      go_wp2_with fail
      exact ⟨rfl, _, rfl, Below.refl _ _, rfl⟩
    refine HSteps.cons ?_ ?_
    · intro f w' hb hU
      obtain u2 : f 17 = p.v := hU.get ⟨2, .data⟩ (by simp) rfl
      obtain u3 : f 18 = .int .u64 par := hU.get ⟨3, .data⟩ (by simp) rfl
      have R := HSl.out w'
      simp only [putAll, List.foldl_cons, List.foldl_nil]
      go_frame
      try simp only [u2, u3]
      go_wp2_with fail
      refine (R).mono ?_
      rintro e w3 ⟨rfl, b3⟩
      go_wp2_with fail
      exact ⟨rfl, _, rfl, b3, rfl⟩
    refine HSteps.cons ?_ ?_
    · intro f w' hb hU
      obtain u1 : f 16 = p.d.v := hU.get ⟨1, .data⟩ (by simp) rfl
      obtain u4 : f 19 = .int .i64 (PL : Int) := hU.get ⟨4, .data⟩ (by simp) rfl
      have R := HRd.out w' hb
      simp only [putAll, List.foldl_cons, List.foldl_nil]
      go_frame
      try simp only [u1, u4]
      go_wp2_with fail
      refine (R).mono ?_
      rintro e w3 ⟨q, rfl, hrd, b3⟩
      go_wp2_with fail
      exact ⟨rfl, _, rfl, b3, q, rfl, hrd⟩
    refine HSteps.cons ?_ ?_
    · intro f w' hb hU
      obtain ⟨q, u5, v5_0⟩ : ∃ (q : Pg), f 20 = .tuple #[q.v, .int .i64 DD.err] ∧ Reads w' q DD := hU.get ⟨5, .data⟩ (by simp) rfl
      simp only [putAll, List.foldl_cons, List.foldl_nil]
      go_frame
      try simp only [u5]
      go_wp2_with fail
      exact ⟨rfl, _, rfl, Below.refl _ _, q, rfl, v5_0⟩
    refine HSteps.cons ?_ ?_
    · intro f w' hb hU
      obtain ⟨q, u6, v6_0⟩ : ∃ (q : Pg), f 14 = .tuple #[q.v, .int .i64 DD.err] ∧ Reads w' q DD := hU.get ⟨6, .data⟩ (by simp) rfl
      simp only [putAll, List.foldl_cons, List.foldl_nil]
      go_frame
      try simp only [u6]
      go_wp2_with fail
      exact ⟨rfl, _, rfl, Below.refl _ _, q, rfl, v6_0⟩
    refine HSteps.cons ?_ ?_
    · intro f w' hb hU
      obtain ⟨q, u6, v6_0⟩ : ∃ (q : Pg), f 14 = .tuple #[q.v, .int .i64 DD.err] ∧ Reads w' q DD := hU.get ⟨6, .data⟩ (by simp) rfl
      simp only [putAll, List.foldl_cons, List.foldl_nil]
      go_frame
      try simp only [u6]
      go_wp2_with fail
      exact ⟨rfl, _, rfl, Below.refl _ _, rfl⟩
    refine HSteps.cons ?_ ?_
    · intro f w' hb hU
      have hP : Blk _ w'.heap.size 85 noPg.cs := Blk.new w' _ _
      have hb3 : Below w'.heap.size w' _ := (Below.refl _ _).alloc (Nat.le_refl _) (.cells (noPg.cs).toArray 85)
      simp only [putAll, List.foldl_cons, List.foldl_nil]
      go_frame
      go_wp2_with fail
      exact ⟨rfl, _, rfl, hb3, _, rfl, hb.size, hP⟩
    exact HSteps.nil
  case grow =>
    intro kq u wa wb hb hu
    rcases kq with _ | _ | _ | _ | _ | _ | _ | _ | _ | _ | kq
    · exact hu
    · exact hu
    · exact hu
    · exact hu
    · exact hu
    · obtain ⟨q, ue, uf0⟩ := hu
      exact ⟨q, ue, uf0.keep hb⟩
    · obtain ⟨q, ue, uf0⟩ := hu
      exact ⟨q, ue, uf0.keep hb⟩
    · obtain ⟨q, ue, uf0⟩ := hu
      exact ⟨q, ue, uf0.keep hb⟩
    · exact hu
    · obtain ⟨b6, ue, uf0, uf1⟩ := hu
      exact ⟨b6, ue, uf0, uf1.keep hb⟩
    · trivial
  case tail =>
    intro f w7 hb7 hU
    obtain ⟨q, u7, v7_0⟩ : ∃ (q : Pg), f 21 = q.v ∧ Reads w7 q DD := hU.get 7 (by decide)
    obtain u8 : f 22 = .int .i64 DD.err := hU.get 8 (by decide)
    obtain ⟨b6, u9, v9_0, v9_1⟩ : ∃ (b6 : Nat), f 6 = .pointer (some ⟨b6, 0, none⟩) ∧ wr.heap.size ≤ b6 ∧ Blk w7 b6 85 noPg.cs := hU.get 9 (by decide)
    simp only [List.drop_succ_cons, List.drop_zero, putAll, List.foldl_cons, List.foldl_nil]
    go_frame
    simp only [u7, u8, u9]
    clear u7 u8 u9
    clear hU
    have kS7 := kS.keep hb7
    have hP7 := hP.keep hb7
    go_wp2_with ((with_reducible refine is_store 85 ?_); go_loud (refine wp_storeB b6 _ _ q.cs v9_1 pageN rfl (pg_one _) rfl rfl ?_); intro w8 k8 r8; go_frame)
    refine noPanic_ok ?_
    have hr8 : Reads w8 q DD := v7_0.apart v9_1 (pg_noby _) r8
    have HB := (hbel.trans (hb7.mono hbel.size)).grown r8 (Nat.le_trans hbel.size hb7.size) (fun z hz => by cases hz; exact Nat.le_trans hbel.size v9_0)
    replace kS := kS7.grown r8 (by simp; omega)
    replace hP := hP7.grown r8 (by simp; omega)
    have hrb := hr8.ok.rb
    have hlen := hrb.len
    have hnc := hr8.ok.nc
    have hcm := hr8.ok.cm
    have hst := hr8.ok.s
    have ei := hr8.id
    have es := hr8.stamp
    have ek := hr8.kind
    have el := hr8.body
    obtain ⟨qi, qs, qk, qA, qn, qc, ql⟩ := q
    dsimp only at ei es ek el hlen hnc hcm hst hrb
    subst ei es ek el
    unfold Pg.cs at k8
    dsimp only at k8
    obtain ⟨y0, y1, y2, y3⟩ := k8.c4
    have l8 := k8.lt
    clear r8 hr8 v7_0 v9_1 hb7 hbel lP HRd HSl kS7 hP7
    obtain ⟨Di, Ds, Dkk, Db, De⟩ := DD
    dsimp only at *
    obtain ⟨r, hr⟩ : ∃ z, Ds % 2 = z := ⟨_, rfl⟩
    have em : (Ds : Int).tmod 2 = (r : Int) := by rw [Int.tmod_eq_emod_of_nonneg (by omega)]; omega
    have HRr := hid hr
    clear hr
    by_cases a0 : De = 0
    rotate_left
    · have HE : Hid (storedOf ⟨Di, Ds, Dkk, Db, De⟩ par p.pgs = none) := hid (by unfold storedOf; rw [if_pos (.inl a0)])
      go_wp2_with (first
        | (with_reducible refine wp_buildSZ Z HZ ?_; go_frame)
        | ((with_reducible refine is_store 35 ?_); refine wp_storeS (w.heap.size + 1) _ Z HZok kS (by rw [Sta.cs_len Sta.zero_ok]) HV.out rfl ?_; intro w9 k9 r9; go_frame))
      refine bodyPost_ret (results_S2 Tryd.results44 _ _ (w.heap.size + 1) Z HZok HV.out k9) rfl ⟨Z, false, rfl, HZok, HE.out, HB.grown r9 HB.size (fun z hz => by cases hz; omega)⟩
    subst a0
    by_cases a1 : Di = 0
    rotate_left
    · have HE : Hid (storedOf ⟨Di, Ds, Dkk, Db, 0⟩ par p.pgs = none) := hid (by unfold storedOf; rw [if_pos (.inr (.inl a1))])
      go_wp2_with (first
        | (with_reducible refine wp_buildSZ Z HZ ?_; go_frame)
        | ((with_reducible refine is_store 35 ?_); refine wp_storeS (w.heap.size + 1) _ Z HZok kS (by rw [Sta.cs_len Sta.zero_ok]) HV.out rfl ?_; intro w9 k9 r9; go_frame))
      refine bodyPost_ret (results_S2 Tryd.results44 _ _ (w.heap.size + 1) Z HZok HV.out k9) rfl ⟨Z, false, rfl, HZok, HE.out, HB.grown r9 HB.size (fun z hz => by cases hz; omega)⟩
    subst a1
    by_cases a2 : Dkk = 2
    rotate_left
    · have HE : Hid (storedOf ⟨0, Ds, Dkk, Db, 0⟩ par p.pgs = none) := hid (by unfold storedOf; rw [if_pos (.inr (.inr (.inl a2)))])
      go_wp2_with (first
        | (with_reducible refine wp_buildSZ Z HZ ?_; go_frame)
        | ((with_reducible refine is_store 35 ?_); refine wp_storeS (w.heap.size + 1) _ Z HZok kS (by rw [Sta.cs_len Sta.zero_ok]) HV.out rfl ?_; intro w9 k9 r9; go_frame))
      refine bodyPost_ret (results_S2 Tryd.results44 _ _ (w.heap.size + 1) Z HZok HV.out k9) rfl ⟨Z, false, rfl, HZok, HE.out, HB.grown r9 HB.size (fun z hz => by cases hz; omega)⟩
    subst a2
    by_cases a3 : Ds = 0
    · have HE : Hid (storedOf ⟨0, Ds, 2, Db, 0⟩ par p.pgs = none) := hid (by unfold storedOf; rw [if_pos (.inr (.inr (.inr (.inl a3))))])
      subst a3
      go_wp2_with (first
        | (with_reducible refine wp_buildSZ Z HZ ?_; go_frame)
        | ((with_reducible refine is_store 35 ?_); refine wp_storeS (w.heap.size + 1) _ Z HZok kS (by rw [Sta.cs_len Sta.zero_ok]) HV.out rfl ?_; intro w9 k9 r9; go_frame))
      refine bodyPost_ret (results_S2 Tryd.results44 _ _ (w.heap.size + 1) Z HZok HV.out k9) rfl ⟨Z, false, rfl, HZok, HE.out, HB.grown r9 HB.size (fun z hz => by cases hz; omega)⟩
    have b3 : ((Ds : Int) == 0) = false := by rw [beq_eq_false_iff_ne]; omega
    by_cases a4 : r = par
    rotate_left
    · have HE : Hid (storedOf ⟨0, Ds, 2, Db, 0⟩ par p.pgs = none) := hid (by unfold storedOf; rw [if_pos (.inr (.inr (.inr (.inr (by show Ds % 2 ≠ par; rw [HRr.out]; exact a4)))))])
      have b4 : ((r : Int) != (par : Int)) = true := by rw [bne_iff_ne]; omega
      go_wp2_with (first
        | (with_reducible refine wp_buildSZ Z HZ ?_; go_frame)
        | ((with_reducible refine is_store 35 ?_); refine wp_storeS (w.heap.size + 1) _ Z HZok kS (by rw [Sta.cs_len Sta.zero_ok]) HV.out rfl ?_; intro w9 k9 r9; go_frame))
      refine bodyPost_ret (results_S2 Tryd.results44 _ _ (w.heap.size + 1) Z HZok HV.out k9) rfl ⟨Z, false, rfl, HZok, HE.out, HB.grown r9 HB.size (fun z hz => by cases hz; omega)⟩
    subst a4
    have b4 : ((r : Int) != (r : Int)) = false := bne_self_eq_false _
    by_cases a5 : qn < 108
    · have HE : Hid (storedOf ⟨0, Ds, 2, Db, 0⟩ r p.pgs = none) := hid (by unfold storedOf; rw [if_neg (by simp [a3, HRr.out]), if_pos (by show Db.length < 108; omega)])
      have t5 : (qn : Int) < 108 := by omega
      go_wp2_with (first
        | (with_reducible refine wp_buildSZ Z HZ ?_; go_frame)
        | ((with_reducible refine is_store 35 ?_); refine wp_storeS (w.heap.size + 1) _ Z HZok kS (by rw [Sta.cs_len Sta.zero_ok]) HV.out rfl ?_; intro w9 k9 r9; go_frame))
      refine bodyPost_ret (results_S2 Tryd.results44 _ _ (w.heap.size + 1) Z HZok HV.out k9) rfl ⟨Z, false, rfl, HZok, HE.out, HB.grown r9 HB.size (fun z hz => by cases hz; omega)⟩
    have t5 : ¬ (qn : Int) < 108 := by omega
    obtain ⟨bb, oo, rfl, hbb, hcc⟩ := hrb.2 (by omega)
    have hb2 : RB w8 (some ⟨bb, oo + 2, none⟩) (qn - 2) (Db.drop 2) := hrb.tail 2 (qn - 2) (by omega)
    obtain ⟨m, hm⟩ : ∃ z, mlen Db = z := ⟨_, rfl⟩
    have hm2 : m < 65536 := by
      rw [← hm]
      have := num_lt ((Db.drop 2).take 2)
      have hl : ((Db.drop 2).take 2).length ≤ 2 := by simp; omega
      have h2 : (256 : Nat) ^ ((Db.drop 2).take 2).length ≤ 256 ^ 2 := Nat.pow_le_pow_right (by omega) hl
      exact Nat.lt_of_lt_of_le this (by omega)
    have HG := get_any (some ⟨bb, oo + 2, none⟩) (qn - 2) (qc - 2) (Db.drop 2) w8 hb2 (by omega)
    rw [show num ((Db.drop 2).take 2) = m from hm] at HG
    have HM := hid hm
    clear hm hb2
    have ks2 : ∀ wx, (Instr.slice 40 (.slice (some ⟨bb, oo, none⟩) qn qc) (some (.int .i64 2)) none none).run Tryd.prog wx = .ok (.slice (some ⟨bb, oo + 2, none⟩) (qn - 2) (qc - 2)) wx := fun wx => by
      have := run_from (P := Tryd.prog) 40 5 Tryd.underlying40 oneByte (some ⟨bb, oo, none⟩) qn qc 2 .i64 2 rfl (by omega) wx
      rw [if_neg (by omega)] at this
      simpa [add_spot] using this
    go_wp2_with fail
    refine HG.mono ?_
    clear HG ks2
    rintro e w10 ⟨rfl, b10⟩
    replace kS := kS.keep b10
    replace hP := hP.keep b10
    replace k8 := k8.keep b10
    replace hrb := hrb.below b10
    replace HB := HB.trans (b10.mono HB.size)
    have hcc2 : ∀ (j : Nat) (u : Value), (List.map byV Db)[j]? = some u → w10.cell? ⟨bb, oo + j, none⟩ = some u := fun j u hu => (b10.cell hbb).trans (hcc j u hu)
    replace hbb := Nat.lt_of_lt_of_le hbb b10.size
    clear hcc b10 y0 y1 y2 y3 l8
    obtain ⟨y0, y1, y2, y3⟩ := k8.c4
    have l8 := k8.lt
    have e1 := IntWalk.i64_in (108 + (m : Int)) (by omega)
    have e2 := IntWalk.i64_in (108 + (m : Int) + 128) (by omega)
    by_cases a6 : 256 < m
    · have HE : Hid (storedOf ⟨0, Ds, 2, Db, 0⟩ r p.pgs = none) := hid (by unfold storedOf; rw [if_neg (by simp [a3, HRr.out]), if_neg (by show ¬ Db.length < 108; omega), if_pos (.inl (by rw [HM.out]; exact a6))])
      have t6 : (m : Int) > 256 := by omega
      go_wp2_with (first
        | (with_reducible refine wp_buildSZ Z HZ ?_; go_frame)
        | ((with_reducible refine is_store 35 ?_); refine wp_storeS (w.heap.size + 1) _ Z HZok kS (by rw [Sta.cs_len Sta.zero_ok]) HV.out rfl ?_; intro w9 k9 r9; go_frame))
      refine bodyPost_ret (results_S2 Tryd.results44 _ _ (w.heap.size + 1) Z HZok HV.out k9) rfl ⟨Z, false, rfl, HZok, HE.out, HB.grown r9 HB.size (fun z hz => by cases hz; omega)⟩
    have t6 : ¬ (m : Int) > 256 := by omega
    by_cases a7 : qn = 108 + m + 128
    rotate_left
    · have HE : Hid (storedOf ⟨0, Ds, 2, Db, 0⟩ r p.pgs = none) := hid (by unfold storedOf; rw [if_neg (by simp [a3, HRr.out]), if_neg (by show ¬ Db.length < 108; omega), if_pos (.inr (by rw [HM.out]; show Db.length ≠ _; omega))])
      have t7 : ((qn : Int) != 108 + (m : Int) + 128) = true := by rw [bne_iff_ne]; omega
      go_wp2_with (first
        | (with_reducible refine wp_buildSZ Z HZ ?_; go_frame)
        | ((with_reducible refine is_store 35 ?_); refine wp_storeS (w.heap.size + 1) _ Z HZok kS (by rw [Sta.cs_len Sta.zero_ok]) HV.out rfl ?_; intro w9 k9 r9; go_frame))
      refine bodyPost_ret (results_S2 Tryd.results44 _ _ (w.heap.size + 1) Z HZok HV.out k9) rfl ⟨Z, false, rfl, HZok, HE.out, HB.grown r9 HB.size (fun z hz => by cases hz; omega)⟩
    have t7 : ((qn : Int) != 108 + (m : Int) + 128) = false := by rw [bne_eq_false_iff_eq]; omega
    have ks4 : ∀ wx, (Instr.slice 40 (.slice (some ⟨bb, oo, none⟩) qn qc) (some (.int .i64 4)) (some (.int .i64 108)) none).run Tryd.prog wx = .ok (.slice (some ⟨bb, oo + 4, none⟩) 104 (qc - 4)) wx := fun wx => by
      have := run_part (P := Tryd.prog) 40 5 Tryd.underlying40 oneByte (some ⟨bb, oo, none⟩) qn qc 4 108 .i64 .i64 4 108 rfl rfl (by omega) (by omega) wx
      rw [if_neg (by omega)] at this
      simpa [add_spot] using this
    have HQ := hid a7
    clear a7
    go_wp2_with fail
    clear ks4
    go_loopw [73] (fun i wr => ∃ k : Nat, k ≤ 104 ∧ i = .int .i64 k ∧ wr = w10 ∧ Hid (∀ j, j < k → Db[4 + j]? = some 0)) (fun i _ => 104 - (intOf i).toNat)
    case atStart => exact ⟨0, by omega, rfl, by first | rfl | trivial, hid (fun j hj => absurd hj (by omega))⟩
    case round =>
      obtain ⟨k, hk, rfl, rfl, HZ4⟩ := hrel
      by_cases hlt : k < 104
      · obtain ⟨x, hx⟩ : ∃ x, Db[4 + k]? = some x := ⟨_, List.getElem?_eq_getElem (by rw [hlen, HQ.out]; omega)⟩
        have hc := hcc2 (4 + k) (byV x) (by rw [List.getElem?_map, hx]; rfl)
        rw [← Nat.add_assoc] at hc
        have HX := hid hx
        clear hx
        unfold byV at hc
        by_cases hx0 : x = 0
        · have ex : (N8 x != 0) = false := by rw [hx0]; rfl
          have HX0 := hid hx0
          clear hx0
          go_wp2_with fail
          go_roundw
          case measure => simp [intOf]; omega
          case rel =>
            refine ⟨k + 1, by omega, by go_num, by first | rfl | trivial, hid (fun j hj => ?_)⟩
            by_cases h : j = k
            · rw [h, HX.out, HX0.out]
            · exact HZ4.out j (by omega)
        · have ex : (N8 x != 0) = true := by
            rw [bne_iff_ne]
            intro h
            apply hx0
            unfold N8 at h
            have : x.toNat = 0 := by omega
            exact UInt8.toNat_inj.1 this
          have HE : Hid (storedOf ⟨0, Ds, 2, Db, 0⟩ r p.pgs = none) := hid (by
            unfold storedOf
            rw [if_neg (by simp [a3, HRr.out]), if_neg (by show ¬ Db.length < 108; omega), if_neg (by rw [HM.out]; have := HQ.out; show ¬ (256 < m ∨ Db.length ≠ _); omega), if_pos]
            intro h
            have h2 : ((Db.drop 4).take 104)[k]? = some 0 := by rw [h, List.getElem?_replicate, if_pos hlt]
            rw [List.getElem?_take, if_pos hlt, List.getElem?_drop, HX.out] at h2
            exact hx0 (Option.some.inj h2))
          clear hx0
          go_wp2_with (first
            | (with_reducible refine wp_buildSZ Z HZ ?_; go_frame)
            | ((with_reducible refine is_store 35 ?_); refine wp_storeS (w.heap.size + 1) _ Z HZok kS (by rw [Sta.cs_len Sta.zero_ok]) HV.out rfl ?_; intro w9 k9 r9; go_frame))
          refine bodyPost_ret (results_S2 Tryd.results44 _ _ (w.heap.size + 1) Z HZok HV.out k9) rfl ⟨Z, false, rfl, HZok, HE.out, HB.grown r9 HB.size (fun z hz => by cases hz; omega)⟩
      · obtain rfl : k = 104 := by omega
        have HZZ : Hid ((Db.drop 4).take 104 = List.replicate 104 0) := hid (by
          apply List.ext_getElem?
          intro j
          rw [List.getElem?_take, List.getElem?_replicate, List.getElem?_drop]
          split
          · rename_i hj
            exact HZ4.out j hj
          · rfl)
        clear HZ4 y0 y1 y2 y3 l8
        have hq := HQ.out
        have hb0 : RB wr (some ⟨bb, oo, none⟩) qn Db := hrb
        obtain ⟨root, hroot⟩ : ∃ z, num (Db.take 2) = z := ⟨_, rfl⟩
        have hroot2 : root < 65536 := by
          rw [← hroot]
          have := num_lt (Db.take 2)
          have hl : (Db.take 2).length ≤ 2 := by simp; omega
          have h2 : (256 : Nat) ^ (Db.take 2).length ≤ 256 ^ 2 := Nat.pow_le_pow_right (by omega) hl
          exact Nat.lt_of_lt_of_le this (by omega)
        have HG : Hid (∀ wx, Below wr.heap.size wr wx → Calls Tryd.prog 65 #[.slice (some ⟨bb, oo, none⟩) qn qc] wx fun e w' => e = .returned (.int .i64 root) ∧ Below wx.heap.size wx w') := hid fun wx hb => by
          have := get_any (some ⟨bb, oo, none⟩) qn qc Db wx (hb0.below hb) (by omega)
          rwa [hroot] at this
        obtain ⟨mt, hmt⟩ : ∃ z, (Db.drop 108).take m = z := ⟨_, rfl⟩
        have hmtl : mt.length = m := by rw [← hmt]; simp; omega
        have HCv : Hid (∀ wx, Below wr.heap.size wr wx → (convert 40 9 (.slice (some ⟨bb, oo + 108, none⟩) m (qc - 108))).run Tryd.prog wx = .ok (.string ⟨mt.toArray⟩) wx) := hid fun wx hb => by
          have := run_str ((hrb.sub 108 m (by omega)).below hb) 40 9 5 (qc - 108) Tryd.underlying40 Tryd.underlying5 Tryd.underlying9
          rwa [hmt] at this
        have ks5 : ∀ wx, (Instr.slice 40 (.slice (some ⟨bb, oo, none⟩) qn qc) (some (.int .i64 108)) (some (.int .i64 (108 + (m : Int)))) none).run Tryd.prog wx = .ok (.slice (some ⟨bb, oo + 108, none⟩) m (qc - 108)) wx := fun wx => by
          have := run_part (P := Tryd.prog) 40 5 Tryd.underlying40 oneByte (some ⟨bb, oo, none⟩) qn qc 108 (108 + m) .i64 .i64 108 (108 + (m : Int)) rfl (by omega) (by omega) (by omega) wx
          rw [if_neg (by omega), show 108 + m - 108 = m by omega] at this
          simpa [add_spot] using this
        have HROOT := hid hroot
        have HMT := hid hmt
        clear hroot hmt
        obtain ⟨L0, hL0⟩ : ∃ z, wr.heap.size = z := ⟨_, rfl⟩
        have hS0 : w.heap.size + 1 < L0 ∧ b6 < L0 ∧ bb < L0 := by rw [← hL0]; exact ⟨kS.lt, k8.lt, hbb⟩
        clear hq
        go_wp2_with fail
        refine wp_region_head 137 13 [81, 82, 83, 84, 85, 86, 87, 88, 89, 90, 91, 92, 11] [] ((fun kq => ([fun u w' => u = .pointer (some ⟨b6, 3, none⟩), fun u w' => u = .slice (some ⟨bb, oo, none⟩) qn qc, fun u w' => u = .int .i64 root, fun u w' => u = .pointer (some ⟨b6, 1, none⟩), fun u w' => u = .int .u64 Ds, fun u w' => u = .pointer (some ⟨b6, 3, none⟩), fun u w' => u = .slice (some ⟨bb, oo, none⟩) qn qc, fun u w' => u = .int .i64 m, fun u w' => u = .int .i64 (108 + (m : Int)), fun u w' => u = .slice (some ⟨bb, oo + 108, none⟩) m (qc - 108), fun u w' => u = .string ⟨mt.toArray⟩, fun u w' => u = (Sta.mk root Ds mt zeros128).v, fun u w' => ∃ (b11 : Nat), u = .pointer (some ⟨b11, 0, none⟩) ∧ L0 ≤ b11 ∧ Blk w' b11 35 Sta.zero.cs] : List (Value → World → Prop)).getD kq (fun _ _ => True))) (by kernel_rfl) rfl (by kernel_rfl) (.inl rfl) ?grow ?step ?tail
        case step =>
          simp only [List.take_succ_cons, List.take_zero]
          refine HSteps.cons ?_ ?_
          · intro f w' hb hU
            simp only [putAll, List.foldl_cons, List.foldl_nil]
            go_frame
            go_wp2_with fail
            exact ⟨rfl, _, rfl, Below.refl _ _, rfl⟩
          refine HSteps.cons ?_ ?_
          · intro f w' hb hU
            obtain u0 : f 81 = .pointer (some ⟨b6, 3, none⟩) := hU.get ⟨0, .data⟩ (by simp) rfl
            obtain ⟨y0, y1, y2, y3⟩ := (k8.keep hb).c4
            simp only [putAll, List.foldl_cons, List.foldl_nil]
            go_frame
            try simp only [u0]
            go_wp2_with fail
            exact ⟨rfl, _, rfl, Below.refl _ _, rfl⟩
          refine HSteps.cons ?_ ?_
          · intro f w' hb hU
            obtain u1 : f 82 = .slice (some ⟨bb, oo, none⟩) qn qc := hU.get ⟨1, .data⟩ (by simp) rfl
            simp only [putAll, List.foldl_cons, List.foldl_nil]
            go_frame
            try simp only [u1]
            go_wp2_with fail
            refine (HG.out w' hb).mono ?_
            rintro e w3 ⟨rfl, b3⟩
            go_wp2_with fail
            exact ⟨rfl, _, rfl, b3, rfl⟩
          refine HSteps.cons ?_ ?_
          · intro f w' hb hU
            simp only [putAll, List.foldl_cons, List.foldl_nil]
            go_frame
            go_wp2_with fail
            exact ⟨rfl, _, rfl, Below.refl _ _, rfl⟩
          refine HSteps.cons ?_ ?_
          · intro f w' hb hU
            obtain u3 : f 84 = .pointer (some ⟨b6, 1, none⟩) := hU.get ⟨3, .data⟩ (by simp) rfl
            obtain ⟨y0, y1, y2, y3⟩ := (k8.keep hb).c4
            simp only [putAll, List.foldl_cons, List.foldl_nil]
            go_frame
            try simp only [u3]
            go_wp2_with fail
            exact ⟨rfl, _, rfl, Below.refl _ _, rfl⟩
          refine HSteps.cons ?_ ?_
          · intro f w' hb hU
            simp only [putAll, List.foldl_cons, List.foldl_nil]
            go_frame
            go_wp2_with fail
            exact ⟨rfl, _, rfl, Below.refl _ _, rfl⟩
          refine HSteps.cons ?_ ?_
          · intro f w' hb hU
            obtain u5 : f 86 = .pointer (some ⟨b6, 3, none⟩) := hU.get ⟨5, .data⟩ (by simp) rfl
            obtain ⟨y0, y1, y2, y3⟩ := (k8.keep hb).c4
            simp only [putAll, List.foldl_cons, List.foldl_nil]
            go_frame
            try simp only [u5]
            go_wp2_with fail
            exact ⟨rfl, _, rfl, Below.refl _ _, rfl⟩
          refine HSteps.cons ?_ ?_
          · intro f w' hb hU
            simp only [putAll, List.foldl_cons, List.foldl_nil]
            go_frame
            go_wp2_with fail
            exact ⟨rfl, _, rfl, Below.refl _ _, rfl⟩
          refine HSteps.cons ?_ ?_
          · intro f w' hb hU
            obtain u7 : f 88 = .int .i64 m := hU.get ⟨7, .data⟩ (by simp) rfl
            simp only [putAll, List.foldl_cons, List.foldl_nil]
            go_frame
            try simp only [u7]
            go_wp2_with fail
            exact ⟨rfl, _, rfl, Below.refl _ _, rfl⟩
          refine HSteps.cons ?_ ?_
          · intro f w' hb hU
            obtain u6 : f 87 = .slice (some ⟨bb, oo, none⟩) qn qc := hU.get ⟨6, .data⟩ (by simp) rfl
            obtain u8 : f 89 = .int .i64 (108 + (m : Int)) := hU.get ⟨8, .data⟩ (by simp) rfl
            simp only [putAll, List.foldl_cons, List.foldl_nil]
            go_frame
            try simp only [u6, u8]
            go_wp2_with fail
            exact ⟨rfl, _, rfl, Below.refl _ _, rfl⟩
          refine HSteps.cons ?_ ?_
          · intro f w' hb hU
            obtain u9 : f 90 = .slice (some ⟨bb, oo + 108, none⟩) m (qc - 108) := hU.get ⟨9, .data⟩ (by simp) rfl
            have hcv := HCv.out w' hb
            simp only [putAll, List.foldl_cons, List.foldl_nil]
            go_frame
            try simp only [u9]
            go_wp2_with fail
            exact ⟨rfl, _, rfl, Below.refl _ _, rfl⟩
          refine HSteps.cons ?_ ?_
          · intro f w' hb hU
            obtain u2 : f 83 = .int .i64 root := hU.get ⟨2, .data⟩ (by simp) rfl
            obtain u4 : f 85 = .int .u64 Ds := hU.get ⟨4, .data⟩ (by simp) rfl
            obtain u10 : f 91 = .string ⟨mt.toArray⟩ := hU.get ⟨10, .data⟩ (by simp) rfl
            simp only [putAll, List.foldl_cons, List.foldl_nil]
            go_frame
            try simp only [u2, u4, u10]
            go_wp2_with (with_reducible refine wp_buildS3 root Ds mt rfl rfl rfl ?_; go_frame)
            exact ⟨rfl, _, rfl, Below.refl _ _, rfl⟩
          refine HSteps.cons ?_ ?_
          · intro f w' hb hU
            simp only [putAll, List.foldl_cons, List.foldl_nil]
            go_frame
            go_wp2_with ((with_reducible refine is_alloc 35 ?_); refine wp_allocB _ arrSta ?_; intro w5 k5 b5 s5; go_frame)
            exact ⟨rfl, _, rfl, b5, _, rfl, (by rw [← hL0]; exact hb.size), k5⟩
          exact HSteps.nil
        case grow =>
          intro kq u wa wb hb hu
          rcases kq with _ | _ | _ | _ | _ | _ | _ | _ | _ | _ | _ | _ | _ | kq
          · exact hu
          · exact hu
          · exact hu
          · exact hu
          · exact hu
          · exact hu
          · exact hu
          · exact hu
          · exact hu
          · exact hu
          · exact hu
          · exact hu
          · obtain ⟨b11, ue, uf0, uf1⟩ := hu
            exact ⟨b11, ue, uf0, uf1.keep hb⟩
          · trivial
        case tail =>
          intro f w7 hb7 hU
          obtain u11 : f 92 = (Sta.mk root Ds mt zeros128).v := hU.get 11 (by decide)
          obtain ⟨b11, u12, v12_0, v12_1⟩ : ∃ (b11 : Nat), f 11 = .pointer (some ⟨b11, 0, none⟩) ∧ L0 ≤ b11 ∧ Blk w7 b11 35 Sta.zero.cs := hU.get 12 (by decide)
          simp only [List.drop_succ_cons, List.drop_zero, putAll, List.foldl_cons, List.foldl_nil]
          go_frame
          simp only [u11, u12]
          clear u11 u12
          clear hU
          have hq := HQ.out
          go_wp2_with ((with_reducible refine is_store 35 ?_); refine wp_storeS b11 _ (Sta.mk root Ds mt zeros128) ⟨hroot2, hst, by show mt.length ≤ 256; omega, by simp [zeros128]⟩ v12_1 (by rw [Sta.cs_len Sta.zero_ok]) rfl rfl ?_; intro w11 k11 r11; go_frame)
          replace kS := (kS.keep hb7).grown r11 (by simp; omega)
          replace hP := (hP.keep hb7).grown r11 (by simp; omega)
          replace k8 := (k8.keep hb7).grown r11 (by simp; omega)
          replace hrb := (hrb.below hb7).off r11 (by omega)
          replace HB := (HB.trans (hb7.mono HB.size)).grown r11 (HB.trans (hb7.mono HB.size)).size (fun z hz => by cases hz; omega)
          have l11 := k11.lt
          have hcu : (Db.drop (108 + m)).length = 128 := by simp; omega
          have hsrc := hrb.tail (108 + m) (qn - (108 + m)) (by omega)
          clear hb7 r11 v12_1 hb0 HG HCv ks5 hbb hL0 hcc2
          obtain ⟨y0, y1, y2, y3⟩ := k8.c4
          have l8 := k8.lt
          have ks6 : ∀ wx, (Instr.slice 40 (.slice (some ⟨bb, oo, none⟩) qn qc) (some (.int .i64 (108 + (m : Int)))) none none).run Tryd.prog wx = .ok (.slice (some ⟨bb, oo + (108 + m), none⟩) (qn - (108 + m)) (qc - (108 + m))) wx := fun wx => by
            have := run_from (P := Tryd.prog) 40 5 Tryd.underlying40 oneByte (some ⟨bb, oo, none⟩) qn qc (108 + m) .i64 (108 + (m : Int)) (by omega) (by omega) wx
            rw [if_neg (by omega)] at this
            simpa [add_spot] using this
          clear hq
          go_wp2_with fail
          go_still_tail 7, (by kernel_rfl)
          clear ks6
          refine wp_copyB b11 3 128 128 5 _ _ (show Blk w11.drew _ _ _ from k11) bytesT.1 bytesN (some ⟨bb, oo + (108 + m), none⟩) (qn - (108 + m)) (qc - (108 + m)) _ (show RL w11.drew _ _ _ _ from hsrc) (byV_one _) rfl rfl (by simp [Sta.cs, stCs, zeros128]) (fun w12 k12 r12 => ?_)
          go_frame
          generalize goInt _ = g100
          rw [sta_fill root Ds mt _ _ (by have := HQ.out; omega) hcu] at k12
          have kS2 := Blk.grown (show Blk w11.drew _ _ _ from kS) r12 (by simp; omega)
          have hP2 := Blk.grown (show Blk w11.drew _ _ _ from hP) r12 (by simp; omega)
          have HB2 := HB.drew.grown r12 HB.size (fun z hz => by cases hz; omega)
          clear kS hP HB k8 hrb hsrc y0 y1 y2 y3 l8 l11 k11 r12
          obtain ⟨cu, hcue⟩ : ∃ z, Db.drop (108 + m) = z := ⟨_, rfl⟩
          rw [hcue] at k12 hcu
          have HCU := hid hcue
          clear hcue
          have hsk : (Sta.mk root Ds mt cu).ok := ⟨hroot2, hst, by show mt.length ≤ 256; omega, hcu⟩
          have HS0 := hid (stored_end Ds r p.pgs m root Db mt cu a3 HRr.out (by have := HQ.out; omega) (by omega) HM.out HZZ.out HROOT.out HMT.out HCU.out)
          have cel : ∀ wx, Blk wx b11 35 (Sta.mk root Ds mt cu).cs → ∀ k x, cu[k]? = some x → wx.cell? ⟨b11, 3 + k, none⟩ = some (byV x) := fun wx h k x hx => by
            rw [h.cell]
            unfold Sta.cs stCs
            dsimp only
            rw [List.getElem?_append_right (by simp), show 3 + k - _ = k by simp, List.getElem?_map, hx]
            rfl
          have HCel := hid cel
          clear cel HCU HM HROOT HMT HQ HZZ
          go_wp2_with fail
          go_loopw [101] (fun i wq => ∃ k : Nat, k ≤ 1024 ∧ i = .int .i64 k ∧ Blk wq b11 35 (Sta.mk root Ds mt cu).cs ∧ Blk wq (w.heap.size + 1) 35 Sta.zero.cs ∧ Blk wq w.heap.size 37 p.cs ∧ Below w.heap.size w wq ∧ Hid (∀ j, j < k → bit cu j = true → 1 ≤ j ∧ j ≤ p.pgs)) (fun i _ => 1024 - (intOf i).toNat)
          case atStart => exact ⟨0, by omega, rfl, k12, kS2, hP2, HB2, hid (fun j hj => absurd hj (by omega))⟩
          case round =>
            obtain ⟨k, hk, rfl, k11, kS, hP, HB, HW⟩ := hrel
            clear k12 kS2 hP2 HB2
            have l11 := k11.lt
            by_cases hlt : k < 1024
            · have tk : (k : Int) < 1024 := by omega
              have HH := hid (fun wx h => has_any b11 3 cu k wx hcu hlt (HCel.out wx h))
              go_wp2_with fail
              refine (HH.out _ k11).mono ?_
              rintro e w13 ⟨rfl, b13⟩
              replace k11 := k11.keep b13
              replace kS := kS.keep b13
              replace hP := hP.keep b13
              replace HB := HB.trans (b13.mono HB.size)
              clear b13 l11 HH
              obtain ⟨x0, x1, x2, x3, x4, x5, x6, x7, x8, x9⟩ := Pgr.c10 hP
              have lP := hP.lt
              obtain ⟨bk, hbk⟩ : ∃ z, bit cu k = z := ⟨_, rfl⟩
              have HBK := hid hbk
              rw [hbk]
              clear hbk
              cases bk with
              | false =>
                go_wp2_with fail
                go_roundw
                case measure => simp [intOf]; omega
                case rel =>
                  refine ⟨k + 1, by omega, by go_num, k11, kS, hP, HB, hid (fun j hj hb => ?_)⟩
                  by_cases h : j = k
                  · rw [h, HBK.out] at hb
                    cases hb
                  · exact HW.out j (by omega) hb
              | true =>
                by_cases h0 : k = 0
                · have HE : Hid (storedOf ⟨0, Ds, 2, Db, 0⟩ r p.pgs = none) := hid (by
                    refine HS0.out.1 ?_
                    intro hw
                    have := (hw k hlt HBK.out).1
                    omega)
                  have tk0 : ((k : Int) == 0) = true := by rw [beq_iff_eq]; omega
                  clear h0
                  go_wp2_with (first
                    | (with_reducible refine wp_buildSZ Z HZ ?_; go_frame)
                    | ((with_reducible refine is_store 35 ?_); refine wp_storeS (w.heap.size + 1) _ Z HZok kS (by rw [Sta.cs_len Sta.zero_ok]) HV.out rfl ?_; intro w9 k9 r9; go_frame))
                  refine bodyPost_ret (results_S2 Tryd.results44 _ _ (w.heap.size + 1) Z HZok HV.out k9) rfl ⟨Z, false, rfl, HZok, HE.out, HB.grown r9 HB.size (fun z hz => by cases hz; omega)⟩
                · have tk0 : ((k : Int) == 0) = false := by rw [beq_eq_false_iff_ne]; omega
                  by_cases h1 : k ≤ p.pgs
                  · have tk1 : ¬ (k : Int) > (p.pgs : Int) := by omega
                    go_wp2_with fail
                    go_roundw
                    case measure => simp [intOf]; omega
                    case rel =>
                      refine ⟨k + 1, by omega, by go_num, k11, kS, hP, HB, hid (fun j hj hb => ?_)⟩
                      by_cases h : j = k
                      · omega
                      · exact HW.out j (by omega) hb
                  · have HE : Hid (storedOf ⟨0, Ds, 2, Db, 0⟩ r p.pgs = none) := hid (by
                      refine HS0.out.1 ?_
                      intro hw
                      have := (hw k hlt HBK.out).2
                      omega)
                    have tk1 : (k : Int) > (p.pgs : Int) := by omega
                    go_wp2_with (first
                      | (with_reducible refine wp_buildSZ Z HZ ?_; go_frame)
                      | ((with_reducible refine is_store 35 ?_); refine wp_storeS (w.heap.size + 1) _ Z HZok kS (by rw [Sta.cs_len Sta.zero_ok]) HV.out rfl ?_; intro w9 k9 r9; go_frame))
                    refine bodyPost_ret (results_S2 Tryd.results44 _ _ (w.heap.size + 1) Z HZok HV.out k9) rfl ⟨Z, false, rfl, HZok, HE.out, HB.grown r9 HB.size (fun z hz => by cases hz; omega)⟩
            · obtain rfl : k = 1024 := by omega
              have HW2 : Hid (within cu p.pgs) := HW
              clear HW
              obtain ⟨x0, x1, x2, x3, x4, x5, x6, x7, x8, x9⟩ := Pgr.c10 hP
              have lP := hP.lt
              have z0 : wr.cell? ⟨b11, 0, none⟩ = some (.int .i64 root) := k11.cell 0
              have hsv := hsk
              by_cases hr0 : root = 0
              · have HE : Hid (storedOf ⟨0, Ds, 2, Db, 0⟩ r p.pgs = some ⟨root, Ds, mt, cu⟩) := hid (by
                  exact HS0.out.2.2 HW2.out (.inl hr0))
                have tr0 : ((root : Int) == 0) = true := by rw [beq_iff_eq]; omega
                clear hr0
                go_wp2_with (first
                  | ((with_reducible refine is_load 35 ?_); refine wp_loadS b11 (Sta.mk root Ds mt cu) hsv k11 rfl ?_; go_frame)
                  | ((with_reducible refine is_store 35 ?_); refine wp_storeS (w.heap.size + 1) _ (Sta.mk root Ds mt cu) hsv kS (by rw [Sta.cs_len Sta.zero_ok]) HV.out rfl ?_; intro w9 k9 r9; go_frame))
                refine bodyPost_ret (results_S2 Tryd.results44 _ _ (w.heap.size + 1) (Sta.mk root Ds mt cu) hsv HV.out k9) rfl ?_
                first
                  | exact ⟨Sta.mk root Ds mt cu, true, rfl, hsv, HE.out, HB.grown r9 HB.size (fun z hz => by cases hz; omega)⟩
                  | exact ⟨Sta.mk root Ds mt cu, .inr ⟨rfl, hsv, HE.out, HB.grown r9 HB.size (fun z hz => by cases hz; omega)⟩⟩
              · have tr0 : ((root : Int) == 0) = false := by rw [beq_eq_false_iff_ne]; omega
                by_cases hr1 : root ≤ p.pgs
                · have tr1 : (root : Int) ≤ (p.pgs : Int) := by omega
                  have tr2 : decide ((root : Int) ≤ (p.pgs : Int)) = true := by simpa using tr1
                  have HH := hid (fun wx h => has_any b11 3 cu root wx hcu (by omega) (HCel.out wx h))
                  go_wp2_with fail
                  refine (HH.out _ k11).mono ?_
                  rintro e w13 ⟨rfl, b13⟩
                  replace k11 := k11.keep b13
                  replace kS := kS.keep b13
                  replace hP := hP.keep b13
                  replace HB := HB.trans (b13.mono HB.size)
                  clear b13 l11 HH x0 x1 x2 x3 x4 x5 x6 x7 x8 x9 lP z0
                  obtain ⟨bk, hbk⟩ : ∃ z, bit cu root = z := ⟨_, rfl⟩
                  have HBK := hid hbk
                  rw [hbk]
                  clear hbk
                  cases bk with
                  | true =>
                    have HE : Hid (storedOf ⟨0, Ds, 2, Db, 0⟩ r p.pgs = some ⟨root, Ds, mt, cu⟩) := hid (by
                      exact HS0.out.2.2 HW2.out (.inr ⟨hr1, HBK.out⟩))
                    go_wp2_with (first
                      | ((with_reducible refine is_load 35 ?_); refine wp_loadS b11 (Sta.mk root Ds mt cu) hsv k11 rfl ?_; go_frame)
                      | ((with_reducible refine is_store 35 ?_); refine wp_storeS (w.heap.size + 1) _ (Sta.mk root Ds mt cu) hsv kS (by rw [Sta.cs_len Sta.zero_ok]) HV.out rfl ?_; intro w9 k9 r9; go_frame))
                    refine bodyPost_ret (results_S2 Tryd.results44 _ _ (w.heap.size + 1) (Sta.mk root Ds mt cu) hsv HV.out k9) rfl ?_
                    first
                      | exact ⟨Sta.mk root Ds mt cu, true, rfl, hsv, HE.out, HB.grown r9 HB.size (fun z hz => by cases hz; omega)⟩
                      | exact ⟨Sta.mk root Ds mt cu, .inr ⟨rfl, hsv, HE.out, HB.grown r9 HB.size (fun z hz => by cases hz; omega)⟩⟩
                  | false =>
                    have HE : Hid (storedOf ⟨0, Ds, 2, Db, 0⟩ r p.pgs = none) := hid (by
                      refine HS0.out.2.1 HW2.out ?_
                      rintro (h | ⟨_, h⟩)
                      · exact hr0 h
                      · rw [HBK.out] at h; cases h)
                    go_wp2_with (first
                      | ((with_reducible refine is_load 35 ?_); refine wp_loadS b11 (Sta.mk root Ds mt cu) hsv k11 rfl ?_; go_frame)
                      | ((with_reducible refine is_store 35 ?_); refine wp_storeS (w.heap.size + 1) _ (Sta.mk root Ds mt cu) hsv kS (by rw [Sta.cs_len Sta.zero_ok]) HV.out rfl ?_; intro w9 k9 r9; go_frame))
                    refine bodyPost_ret (results_S2 Tryd.results44 _ _ (w.heap.size + 1) (Sta.mk root Ds mt cu) hsv HV.out k9) rfl ?_
                    first
                      | exact ⟨Sta.mk root Ds mt cu, false, rfl, hsv, HE.out, HB.grown r9 HB.size (fun z hz => by cases hz; omega)⟩
                      | exact ⟨Sta.mk root Ds mt cu, .inl ⟨rfl, hsv, HE.out, HB.grown r9 HB.size (fun z hz => by cases hz; omega)⟩⟩
                · have tr1 : ¬ (root : Int) ≤ (p.pgs : Int) := by omega
                  have tr2 : decide ((root : Int) ≤ (p.pgs : Int)) = false := by simpa using tr1
                  have HE : Hid (storedOf ⟨0, Ds, 2, Db, 0⟩ r p.pgs = none) := hid (by
                    refine HS0.out.2.1 HW2.out ?_
                    rintro (h | ⟨h, _⟩)
                    · exact hr0 h
                    · exact hr1 h)
                  go_wp2_with (first
                    | ((with_reducible refine is_load 35 ?_); refine wp_loadS b11 (Sta.mk root Ds mt cu) hsv k11 rfl ?_; go_frame)
                    | ((with_reducible refine is_store 35 ?_); refine wp_storeS (w.heap.size + 1) _ (Sta.mk root Ds mt cu) hsv kS (by rw [Sta.cs_len Sta.zero_ok]) HV.out rfl ?_; intro w9 k9 r9; go_frame))
                  refine bodyPost_ret (results_S2 Tryd.results44 _ _ (w.heap.size + 1) (Sta.mk root Ds mt cu) hsv HV.out k9) rfl ?_
                  first
                    | exact ⟨Sta.mk root Ds mt cu, false, rfl, hsv, HE.out, HB.grown r9 HB.size (fun z hz => by cases hz; omega)⟩
                    | exact ⟨Sta.mk root Ds mt cu, .inl ⟨rfl, hsv, HE.out, HB.grown r9 HB.size (fun z hz => by cases hz; omega)⟩⟩
end Go.Proofs.YtanglofabkbllaaDoor

