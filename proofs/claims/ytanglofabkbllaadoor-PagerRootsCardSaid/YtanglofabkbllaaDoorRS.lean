/- The reference's states as values; In, with, Free, Commit, Reopen, Room of the reference, walked. Conditions: the state reads. Free, Commit of the reference, walked. Conditions: the state reads. Room, Alloc of the reference, walked. Conditions: the state reads. New of the reference, walked. Conditions: the number of pages fits. -/
import Derived.Test.YtanglofabkbllaaDoorPgK
import Derived.Test.YtanglofabkbllaaDoorSls
set_option linter.unusedSimpArgs false
set_option linter.unusedVariables false
namespace Go.Proofs.YtanglofabkbllaaDoor
open Go.RowKit

/-- a state of the reference -/
structure RS where
  (n root num : Nat) (mt : List UInt8) (used now : List Bool) (bod : List (List UInt8))
structure RS.ok (S : RS) : Prop where
  n : S.n ≤ 1023
  num : S.num < 18446744073709551616
  u : S.used.length = S.n + 1
  k : S.now.length = S.n + 1
  b : S.bod.length = S.n + 1
/-- a state as a value -/
structure RV where
  (n root num : Nat) (m u k b : Sl)
def RV.cs (v : RV) : List Value := [.int .i64 v.n, .int .i64 v.root, .int .u64 v.num, v.m.v, v.u.v, v.k.v, v.b.v]
def RV.v (v : RV) : Value := .agg #[.int .i64 v.n, .int .i64 v.root, .int .u64 v.num, v.m.v, v.u.v, v.k.v, v.b.v]
def Sl.zero : Sl := ⟨none, 0, 0⟩
def RV.zero : RV := ⟨0, 0, 0, Sl.zero, Sl.zero, Sl.zero, Sl.zero⟩
theorem rv_one (v : RV) : ∀ x ∈ v.cs, x.oneCell' = true := by
  intro x hx
  simp only [RV.cs, List.mem_cons, List.not_mem_nil, or_false] at hx
  rcases hx with rfl | rfl | rfl | rfl | rfl | rfl | rfl <;> rfl
theorem arrRS : ArrT Tryd.prog 60 RV.zero.cs := (by kernel_rfl : (Tryd.prog.info? 60).map (fun i => (i.zero, i.size)) = some (some (.agg RV.zero.cs.toArray), 7))
theorem rsN : (Tryd.prog.info? 60).map (·.size) = some 7 := by kernel_rfl
theorem slN : (Tryd.prog.info? 57).map (·.size) = some 1 ∧ (Tryd.prog.info? 40).map (·.size) = some 1 ∧ (Tryd.prog.info? 58).map (·.size) = some 1 ∧ (Tryd.prog.info? 4).map (·.size) = some 1 := ⟨by kernel_rfl, by kernel_rfl, by kernel_rfl, by kernel_rfl⟩
theorem boolT : OneC Tryd.prog 57 4 (.bool false) 1 :=
  ⟨Tryd.underlying57, info_parts (by kernel_rfl : (Tryd.prog.info? 4).map (fun i => (i.zero, i.size, i.bytes)) = some (some (.bool false), 1, 1)), rfl⟩
theorem slsT : OneC Tryd.prog 58 40 (.slice none 0 0) 24 :=
  ⟨Tryd.underlying58, info_parts (by kernel_rfl : (Tryd.prog.info? 40).map (fun i => (i.zero, i.size, i.bytes)) = some (some (.slice none 0 0), 1, 24)), rfl⟩
section
variable {ops : Array Oper} {rest : List Oper} {Q : Exit → Act → World → Prop} {a : Act} {w : World} {ty : TypeId} {ps : String} {af : Array Edge} {d : Option Tmp} {x y : Operand}
theorem wp_loadR (g : Nat) (v : RV) (hg : Blk w g 60 v.cs) (hx : a.eval x = .pointer (some ⟨g, 0, none⟩))
    (h : wpList Tryd.prog ops Q rest (a.put d v.v) w) : wpList Tryd.prog ops Q (⟨d, Op.load 60 x, ty, ps, af, none⟩ :: rest) a w :=
  wpList_load_row rfl 60 x rfl g hx 60 v.cs.toArray (0, 0) _ hg Tryd.underlying60 rfl (rsN.trans rfl) h
theorem wp_loadRg {gd : Option (Nat × Bool)} (g : Nat) (v : RV) (hg : Blk w g 60 v.cs) (hx : a.eval x = .pointer (some ⟨g, 0, none⟩)) (hw : Region.wanted ⟨d, Op.load 60 x, ty, ps, af, gd⟩ (yielded ops a.tmps) = true)
    (h : wpList Tryd.prog ops Q rest (a.put d v.v) w) : wpList Tryd.prog ops Q (⟨d, Op.load 60 x, ty, ps, af, gd⟩ :: rest) a w := by
  unfold wpList
  rw [if_pos hw]
  exact .inl (wp_load_mid 60 x rfl g 0 hx v.cs _ (fun j v hv => by rw [Nat.zero_add, hg.cell]; exact hv) Tryd.underlying60 rfl (rsN.trans rfl) h)
theorem wp_storeR (g : Nat) (cur : List Value) (v : RV) (hg : Blk w g 60 cur) (hl : cur.length = 7) (hx : a.eval x = .pointer (some ⟨g, 0, none⟩)) (hy : a.eval y = v.v)
    (h : ∀ w', Blk w' g 60 v.cs → w.grownBy w' (some g) → wpList Tryd.prog ops Q rest (a.put none undef) w') : wpList Tryd.prog ops Q (⟨none, Op.store 60 x y, ty, ps, af, none⟩ :: rest) a w :=
  wp_storeB g 60 cur v.cs hg (rsN.trans rfl) (by rw [hl]; rfl) (rv_one v) hx hy h
theorem run_loadR (w : World) (g : Nat) (v : RV) (hg : Blk w g 60 v.cs) : (loadVar 60 ⟨g, 0, none⟩).run Tryd.prog w = .ok v.v w :=
  run_loadVar_row w g 60 60 v.cs.toArray (0, 0) _ hg Tryd.underlying60 rfl (rsN.trans rfl)
theorem results_R1 {fn : Func} {i : Tmp} (h : fn.results = #[.cell i 60]) (tmps : Array Value) (w : World) (g : Nat) (v : RV) (hi : tmps.getD i undef = .pointer (some ⟨g, 0, none⟩)) (hg : Blk w g 60 v.cs) :
    (results fn tmps).run Tryd.prog w = .ok v.v w := by
  have hi' : tmps[i]?.getD undef = .pointer (some ⟨g, 0, none⟩) := by simpa using hi
  simp only [results, h]
  simp [Sem.run_bind, Result.andThen, hi', asAddr, run_loadR w g v hg]
theorem results_R2 {fn : Func} {i u : Tmp} (h : fn.results = #[.cell i 60, .tmp u]) (tmps : Array Value) (w : World) (g : Nat) (v : RV) (hi : tmps.getD i undef = .pointer (some ⟨g, 0, none⟩)) (hg : Blk w g 60 v.cs) :
    (results fn tmps).run Tryd.prog w = .ok (.tuple #[v.v, tmps.getD u undef]) w := by
  rw [results_cell_tmp h, hi]
  simp [asAddr, run_loadR w g v hg, Result.andThen]
theorem results_R3 {fn : Func} {i u z : Tmp} (h : fn.results = #[.cell i 60, .tmp u, .tmp z]) (tmps : Array Value) (w : World) (g : Nat) (v : RV) (hi : tmps.getD i undef = .pointer (some ⟨g, 0, none⟩)) (hg : Blk w g 60 v.cs) :
    (results fn tmps).run Tryd.prog w = .ok (.tuple #[v.v, tmps.getD u undef, tmps.getD z undef]) w := by
  have hi' : tmps[i]?.getD undef = .pointer (some ⟨g, 0, none⟩) := by simpa using hi
  simp only [results, h]
  simp [Sem.run_bind, Result.andThen, hi', asAddr, run_loadR w g v hg]
end
/-- a value that reads as a state -/
structure RVr (N : Nat → Prop) (w : World) (v : RV) (S : RS) : Prop where
  ok : S.ok
  n : v.n = S.n
  root : v.root = S.root
  num : v.num = S.num
  m : SlR N w v.m S.mt
  u : RN N w 1 v.u.A (S.n + 1) (S.used.map Value.bool)
  un : v.u.n = S.n + 1 ∧ S.n + 1 ≤ v.u.c ∧ v.u.c ≤ 9223372036854775807
  k : RN N w 1 v.k.A (S.n + 1) (S.now.map Value.bool)
  kn : v.k.n = S.n + 1 ∧ S.n + 1 ≤ v.k.c ∧ v.k.c ≤ 9223372036854775807
  b : ∃ ss : List Sl, RN N w 1 v.b.A (S.n + 1) (ss.map Sl.v) ∧ Sls N w ss S.bod
  bn : v.b.n = S.n + 1 ∧ S.n + 1 ≤ v.b.c ∧ v.b.c ≤ 9223372036854775807
theorem RVr.keep {N : Nat → Prop} {w w' : World} {v : RV} {S : RS} (h : RVr N w v S) (hb : Below w.heap.size w w') : RVr N w' v S :=
  ⟨h.ok, h.n, h.root, h.num, h.m.keep hb, h.u.keep hb, h.un, h.k.keep hb, h.kn, h.b.elim fun ss h => ⟨ss, h.1.keep hb, h.2.keep hb⟩, h.bn⟩
theorem RVr.mono {N N' : Nat → Prop} {w : World} {v : RV} {S : RS} (h : RVr N w v S) (hN : ∀ b, N b → N' b) : RVr N' w v S :=
  ⟨h.ok, h.n, h.root, h.num, h.m.mono hN, h.u.mono hN, h.un, h.k.mono hN, h.kn, h.b.elim fun ss h => ⟨ss, h.1.mono hN, h.2.mono hN⟩, h.bn⟩
theorem RVr.lt {N : Nat → Prop} {w : World} {v : RV} {S : RS} (h : RVr N w v S) : RVr (fun b => N b ∧ b < w.heap.size) w v S :=
  ⟨h.ok, h.n, h.root, h.num, h.m.lt, h.u.lt, h.un, h.k.lt, h.kn, h.b.elim fun ss h => ⟨ss, h.1.lt, h.2.lt⟩, h.bn⟩
theorem RVr.grown {N : Nat → Prop} {w w' : World} {v : RV} {S : RS} {row : Option Nat} (h : RVr N w v S) (hg : w.grownBy w' row) (hr : ∀ g, row = some g → ¬ N g) : RVr N w' v S :=
  ⟨h.ok, h.n, h.root, h.num, h.m.grown hg hr, h.u.grown hg hr, h.un, h.k.grown hg hr, h.kn, h.b.elim fun ss h => ⟨ss, h.1.grown hg hr, h.2.grown hg hr⟩, h.bn⟩
theorem RVr.all {N : Nat → Prop} {w : World} {v : RV} {S : RS} (h : RVr N w v S) : RVr (fun _ => True) w v S := h.mono fun _ _ => trivial
/-- whether a page is in the current set -/
def RS.inn (S : RS) (id : Int) : Bool := decide (1 ≤ id) && decide (id ≤ S.n) && S.now[id.toNat]?.getD false
theorem RL.at1 {w : World} {A : Option Addr} {n : Nat} {xs : List Value} (h : RL w 1 A n xs) {k : Nat} (hk : k < n) : ∃ b off x, A = some ⟨b, off, none⟩ ∧ b < w.heap.size ∧ xs[k]? = some x ∧ w.cell? ⟨b, off + k, none⟩ = some x := by
  obtain ⟨b, off, e, hb, hc⟩ := h.2 (by omega)
  have hl := h.1
  exact ⟨b, off, xs[k]'(by omega), e, hb, List.getElem?_eq_getElem (by omega), hc k _ (List.getElem?_eq_getElem (by omega))⟩
theorem bool_at {l : List Bool} {k : Nat} {x : Value} (h : (l.map Value.bool)[k]? = some x) : ∃ b, l[k]? = some b ∧ x = .bool b := by
  rw [List.getElem?_map] at h
  cases hq : l[k]? with
  | none => rw [hq] at h; cases h
  | some b => rw [hq] at h; exact ⟨b, rfl, (Option.some.inj h).symm⟩
set_option maxRecDepth 100000 in
theorem in_any {N : Nat → Prop} (v : RV) (S : RS) (id : Int) (w : World) (h : RVr N w v S) :
    Calls Tryd.prog 58 #[v.v, .int .i64 id] w fun e w' => e = .returned (.bool (S.inn id)) ∧ Below w.heap.size w w' := by
  obtain ⟨hok, hn, hr, hnum, hm, hu, hun, hk, hkn, hb, hbn⟩ := h
  obtain ⟨vn, vr, vm, ⟨mA, mn, mc⟩, ⟨uA, un, uc⟩, ⟨kA, kn, kc⟩, ⟨bA, bn, bc⟩⟩ := v
  dsimp only at hn hr hnum hm hu hun hk hkn hb hbn
  subst hn hr hnum
  obtain ⟨rfl, _, _⟩ := hun
  obtain ⟨rfl, _, _⟩ := hkn
  obtain ⟨rfl, _, _⟩ := hbn
  have hB : Below w.heap.size w (w.alloc (.cells (RV.cs ⟨S.n, S.root, S.num, ⟨mA, mn, mc⟩, ⟨uA, S.n + 1, uc⟩, ⟨kA, S.n + 1, kc⟩, ⟨bA, S.n + 1, bc⟩⟩).toArray 60)) := (Below.refl _ _).alloc (Nat.le_refl _) _
  unfold RV.v Sl.v
  dsimp only
  unfold RS.inn
  by_cases h1 : 1 ≤ id
  · by_cases h2 : id ≤ S.n
    · obtain ⟨i, rfl⟩ : ∃ i : Nat, id = i := ⟨id.toNat, by omega⟩
      obtain ⟨kb, ko, x, rfl, hkb, hx, hc⟩ := hk.1.at1 (k := i) (by omega)
      obtain ⟨bb, hbb, rfl⟩ := bool_at hx
      rw [Int.toNat_natCast, hbb]
      have hcc := hB.cell (p := ⟨kb, ko + i, none⟩) hkb
      rw [hc] at hcc
      have t1 : (i : Int) ≥ 1 := h1
      have t2 : decide ((i : Int) ≤ (S.n : Int)) = true := by simpa using h2
      have t4 : decide ((1 : Int) ≤ (i : Int)) = true := by simpa using h1
      have t3 : (i : Int) < ((S.n + 1 : Nat) : Int) := by omega
      rw [t2, t4]
      clear hu hm hb hx hbb hok
      go_enter Tryd.func58, Tryd.ntmps58
      go_wp2_with fail
      go_ret
      exact ⟨rfl, hB⟩
    · have t1 : id ≥ 1 := h1
      have t2 : decide (id ≤ (S.n : Int)) = false := by simpa using h2
      rw [t2, Bool.and_false, Bool.false_and]
      clear hu hm hb hok
      go_enter Tryd.func58, Tryd.ntmps58
      go_wp2_with fail
      go_ret
      exact ⟨rfl, hB⟩
  · have t1 : ¬ id ≥ 1 := h1
    have t2 : decide (1 ≤ id) = false := by simpa using h1
    rw [t2, Bool.false_and, Bool.false_and]
    clear hu hm hb hok
    go_enter Tryd.func58, Tryd.ntmps58
    go_wp2_with fail
    go_ret
    exact ⟨rfl, hB⟩
theorem bool_one (l : List Bool) : ∀ u ∈ l.map Value.bool, u.oneCell' = true := by
  intro u hu
  obtain ⟨_, _, rfl⟩ := List.mem_map.1 hu
  rfl
set_option maxRecDepth 100000 in
set_option maxHeartbeats 2000000 in
theorem rwith_any (A : Option Addr) (n c i : Nat) (x : Bool) (l : List Bool) (w : World) (h : RL w 1 A n (l.map Value.bool)) (hn : n ≤ 100000) (hi : i < n) :
    Calls Tryd.prog 69 #[.slice A n c, .int .i64 i, .bool x] w fun e w' => ∃ A' c', e = .returned (.slice A' n c') ∧ w'.ownsRow w.heap.size 4 1 (.slice A' n c') n ((l.set i x).map Value.bool) ∧ Below w.heap.size w w' := by
  have hown : w.ownsRow w.heap.size 4 1 (.slice none 0 0) 0 [] := World.ownsRow_nil _ _ _ _
  go_enter Tryd.func69, Tryd.ntmps69
  go_upto_region 3 with (at_builtin; refine wp_app _ rfl _ _ 57 rfl w.heap.size 4 _ 1 boolT _ _ _ hown rfl _ _ _ _ h rfl (bool_one _) (by unfold maxLen; omega) (by omega) (Nat.le_refl _) ?_; intro v6 w6 hown6 r6 a6)
  rw [Nat.zero_add, List.nil_append] at hown6
  obtain ⟨A6, c6, rfl, _, _, _⟩ := own_form hown6
  obtain ⟨g, rfl, hbase, hlt, hcell, hfz, hset⟩ := own_set hown6 hi
  obtain ⟨hs1, hs2⟩ := hset (.bool x)
  have hB6 : Below w.heap.size w w6 := (Below.refl _ _).grown r6 (Nat.le_refl _) (fun q hq => (hown.lt q hq).1)
  have hl : ∃ z, (l.map Value.bool)[i]? = some z := ⟨_, List.getElem?_eq_getElem (by have := hown6.1; omega)⟩
  obtain ⟨old, hl⟩ := hl
  rw [hl] at hcell
  have ti : (i : Int) < (n : Int) := by omega
  have hBs := hB6.grown hs2 hB6.size (fun q hq => by cases hq; exact hbase)
  clear hl hset h hown r6 a6 hown6
  rw [show (l.map Value.bool).set i (Value.bool x) = (l.set i x).map Value.bool from List.map_set.symm] at hs1
  go_wp2_with fail
  go_ret
  exact ⟨some ⟨g, 0, none⟩, c6, rfl, hs1, hBs⟩
/-- the operations -/
def RS.free (S : RS) (id : Nat) : RS := { S with now := S.now.set id false }
def RS.commit (S : RS) (root : Nat) (mt : List UInt8) : RS := { S with root := root, num := S.num + 1, mt := mt, used := S.now }
def RS.reopen (S : RS) : RS := { S with now := S.used }
set_option maxRecDepth 100000 in
set_option maxHeartbeats 2000000 in
theorem reopen_any {N : Nat → Prop} (v : RV) (S : RS) (w : World) (h : RVr N w v S) :
    Calls Tryd.prog 39 #[v.v] w fun e w' => ∃ v' : RV, e = .returned v'.v ∧ RVr N w' v' S.reopen ∧ Below w.heap.size w w' := by
  have HR := hid h
  have hv : v.v = .agg #[.int .i64 v.n, .int .i64 v.root, .int .u64 v.num, .slice v.m.A v.m.n v.m.c, .slice v.u.A v.u.n v.u.c, .slice v.k.A v.k.n v.k.c, .slice v.b.A v.b.n v.b.c] := rfl
  rw [hv]
  clear hv h
  go_enter Tryd.func39, Tryd.ntmps39
  go_upto_region 1 with fail
  generalize hw3 : World.alloc (World.alloc w _) _ = v3
  obtain ⟨k1, k2, B⟩ := two_boxes_r (cs1 := v.cs) (cs2 := RV.zero.cs) hw3
  clear hw3
  obtain ⟨x0, x1, x2, x3, x4, x5, x6⟩ := k1.c7
  have l1 := k1.lt
  go_wp2_with (first
    | ((with_reducible refine is_store 57 ?_); refine wp_store1 w.heap.size 5 _ _ v.u.v k1 rfl slN.1 (by show 5 < 7; omega) rfl rfl rfl ?_; intro w5 k5 r5; go_frame)
    | ((with_reducible refine is_load 60 ?_); refine wp_loadR w.heap.size { v with k := v.u } k5 rfl ?_; go_frame)
    | ((with_reducible refine is_store 60 ?_); refine wp_storeR (w.heap.size + 1) _ { v with k := v.u } (k2.grown r5 (by simp)) rfl rfl rfl ?_; intro w6 k6 r6; go_frame))
  have hB5 := B.grown r5 B.size (fun z hz => by cases hz; omega)
  have hB6 := hB5.grown r6 hB5.size (fun z hz => by cases hz; omega)
  have h := HR.out.keep hB6
  refine bodyPost_ret (results_R1 Tryd.results39 _ _ (w.heap.size + 1) { v with k := v.u } rfl k6) rfl ⟨{ v with k := v.u }, rfl, ⟨⟨h.ok.n, h.ok.num, h.ok.u, h.ok.u, h.ok.b⟩, h.n, h.root, h.num, h.m, h.u, h.un, h.u, h.un, h.b, h.bn⟩, hB6⟩
end Go.Proofs.YtanglofabkbllaaDoor
set_option linter.unusedSimpArgs false
set_option linter.unusedVariables false
namespace Go.Proofs.YtanglofabkbllaaDoor
open Go.RowKit

theorem RV.vv (v : RV) : v.v = .agg #[.int .i64 v.n, .int .i64 v.root, .int .u64 v.num, .slice v.m.A v.m.n v.m.c, .slice v.u.A v.u.n v.u.c, .slice v.k.A v.k.n v.k.c, .slice v.b.A v.b.n v.b.c] := rfl
set_option maxRecDepth 100000 in
set_option maxHeartbeats 2000000 in
theorem rfree_no {N : Nat → Prop} (v : RV) (S : RS) (id : Int) (w : World) (h : RVr N w v S) (hn : S.inn id = false) :
    Calls Tryd.prog 52 #[v.v, .int .i64 id] w fun e w' => e = .returned (.tuple #[v.v, .int .i64 9]) ∧ Below w.heap.size w w' := by
  have HI := hid (fun wx (hb : Below w.heap.size w wx) => in_any v S id wx (h.keep hb))
  rw [hn] at HI
  clear h hn
  go_enter Tryd.func52, Tryd.ntmps52
  rw [v.vv]
  go_upto_region 1 with fail
  generalize hw3 : World.alloc (World.alloc w _) _ = v3
  obtain ⟨k1, k2, B⟩ := two_boxes_r (cs1 := v.cs) (cs2 := RV.zero.cs) hw3
  clear hw3
  go_wp2_with ((with_reducible refine is_load 60 ?_); refine wp_loadR w.heap.size v k1 rfl ?_; go_frame)
  refine (HI.out _ B).mono ?_
  rintro e w4 ⟨rfl, b4⟩
  replace k1 := k1.keep b4
  replace k2 := k2.keep b4
  replace B := B.trans (b4.mono B.size)
  go_wp2_with (first
    | ((with_reducible refine is_load 60 ?_); refine wp_loadR w.heap.size v k1 rfl ?_; go_frame)
    | ((with_reducible refine is_store 60 ?_); refine wp_storeR (w.heap.size + 1) _ v k2 rfl rfl rfl ?_; intro w6 k6 r6; go_frame))
  refine bodyPost_ret (results_R2 Tryd.results52 _ _ (w.heap.size + 1) v rfl k6) rfl ⟨rfl, B.grown r6 B.size (fun z hz => by cases hz; omega)⟩
theorem RVr.now {N : Nat → Prop} {w' : World} {v : RV} {S : RS} (h : RVr N w' v S) {l : List Bool} (hl : l.length = S.n + 1) {A : Option Addr} {c base : Nat} (ho : w'.ownsRow base 4 1 (.slice A (S.n + 1) c) (S.n + 1) (l.map Value.bool)) (hN : ∀ b, base ≤ b → N b) : RVr N w' { v with k := ⟨A, S.n + 1, c⟩ } { S with now := l } := by
  have hr := RN.own ho hN
  obtain ⟨A', c', e, -, h1, h2⟩ := own_form ho
  cases e
  exact ⟨⟨h.ok.n, h.ok.num, h.ok.u, hl, h.ok.b⟩, h.n, h.root, h.num, h.m, h.u, h.un, hr, ⟨rfl, h1, h2⟩, h.b, h.bn⟩
theorem RVr.keep2 {N : Nat → Prop} {w w' : World} {v : RV} {S : RS} (h : RVr N w v S) {base : Nat} (hb : Below base w w') (hs : w.heap.size ≤ base) : RVr N w' v S := h.keep (hb.mono hs)
set_option maxRecDepth 100000 in
set_option maxHeartbeats 2000000 in
theorem rfree_good {N : Nat → Prop} (v : RV) (S : RS) (id : Nat) (w : World) (h : RVr N w v S) (hN : ∀ b, w.heap.size ≤ b → N b) (hn : S.inn id = true) :
    Calls Tryd.prog 52 #[v.v, .int .i64 id] w fun e w' => ∃ v' : RV, e = .returned (.tuple #[v'.v, .int .i64 0]) ∧ RVr N w' v' (S.free id) ∧ Below w.heap.size w w' := by
  have HI := hid (fun wx (hb : Below w.heap.size w wx) => in_any v S id wx (h.keep hb))
  have hid2 : id < S.n + 1 := by
    unfold RS.inn at hn
    simp only [Bool.and_eq_true, decide_eq_true_eq] at hn
    omega
  rw [hn] at HI
  have HW : Hid (∀ wx, Below w.heap.size w wx → Calls Tryd.prog 69 #[.slice v.k.A v.k.n v.k.c, .int .i64 id, .bool false] wx fun e w' => ∃ A' c', e = .returned (.slice A' v.k.n c') ∧ w'.ownsRow wx.heap.size 4 1 (.slice A' v.k.n c') v.k.n ((S.now.set id false).map Value.bool) ∧ Below wx.heap.size wx w') := hid fun wx hb => by
    have hk := (h.keep hb).k.1
    rw [← h.kn.1] at hk
    exact rwith_any v.k.A v.k.n v.k.c id false S.now wx hk (by rw [h.kn.1]; have := h.ok.n; omega) (by rw [h.kn.1]; exact hid2)
  have HR := hid h
  clear h hn
  go_enter Tryd.func52, Tryd.ntmps52
  rw [v.vv]
  go_upto_region 1 with fail
  generalize hw3 : World.alloc (World.alloc w _) _ = v3
  obtain ⟨k1, k2, B⟩ := two_boxes_r (cs1 := v.cs) (cs2 := RV.zero.cs) hw3
  clear hw3
  go_wp2_with ((with_reducible refine is_load 60 ?_); refine wp_loadR w.heap.size v k1 rfl ?_; go_frame)
  refine (HI.out _ B).mono ?_
  rintro e w4 ⟨rfl, b4⟩
  replace k1 := k1.keep b4
  replace k2 := k2.keep b4
  replace B := B.trans (b4.mono B.size)
  clear b4
  obtain ⟨x0, x1, x2, x3, x4, x5, x6⟩ := k1.c7
  unfold Sl.v at x3 x4 x5 x6
  have l1 := k1.lt
  go_wp2_with fail
  refine (HW.out _ B).mono ?_
  rintro e w5 ⟨A', c', rfl, hown, b5⟩
  have l2 := k2.lt
  replace k1 := k1.keep b5
  replace k2 := k2.keep b5
  replace B := B.trans (b5.mono B.size)
  clear b5 x0 x1 x2 x3 x4 x5 x6 l1
  have hbk : ∀ g, (Value.slice A' v.k.n c').ownBlock = some g → w.heap.size + 1 < g := fun g hg => by
    have := (hown.lt g hg).1
    omega
  have HR2 := hid (HR.out.keep B)
  go_wp2_with (first
    | ((with_reducible refine is_store 57 ?_); refine wp_store1 w.heap.size 5 _ _ (.slice A' v.k.n c') k1 rfl slN.1 (by show 5 < 7; omega) rfl rfl rfl ?_; intro w6 k6 r6; go_frame)
    | ((with_reducible refine is_load 60 ?_); refine wp_loadR w.heap.size { v with k := ⟨A', v.k.n, c'⟩ } k6 rfl ?_; go_frame)
    | ((with_reducible refine is_store 60 ?_); refine wp_storeR (w.heap.size + 1) _ { v with k := ⟨A', v.k.n, c'⟩ } (k2.grown r6 (by simp)) rfl rfl rfl ?_; intro w7 k7 r7; go_frame))
  have hB6 := B.grown r6 B.size (fun z hz => by cases hz; omega)
  have hB7 := hB6.grown r7 hB6.size (fun z hz => by cases hz; omega)
  have own7 := (hown.kept r6 (.inr (fun hq => by have := hbk _ hq; omega))).kept r7 (.inr (fun hq => by have := hbk _ hq; omega))
  have h := HR.out.keep hB7
  have hkn := h.kn.1
  rw [hkn] at own7
  refine bodyPost_ret (results_R2 Tryd.results52 _ _ (w.heap.size + 1) { v with k := ⟨A', v.k.n, c'⟩ } rfl k7) rfl ⟨{ v with k := ⟨A', v.k.n, c'⟩ }, rfl, ?_, hB7⟩
  rw [hkn]
  exact h.now (by rw [List.length_set]; exact h.ok.k) own7 (fun b hb => hN b (by omega))
/-- whether a root may be committed -/
def RS.rootOk (S : RS) (root : Nat) : Prop := root = 0 ∨ S.inn root = true
set_option maxRecDepth 100000 in
set_option maxHeartbeats 2000000 in
theorem rcommit_no {N : Nat → Prop} (v : RV) (S : RS) (root : Nat) (A : Option Addr) (n c : Nat) (w : World) (h : RVr N w v S) (h0 : root ≠ 0) (hn : S.inn root = false) :
    Calls Tryd.prog 38 #[v.v, .int .i64 root, .slice A n c] w fun e w' => e = .returned (.tuple #[v.v, .int .i64 9]) ∧ Below w.heap.size w w' := by
  have HI := hid (fun wx (hb : Below w.heap.size w wx) => in_any v S root wx (h.keep hb))
  rw [hn] at HI
  clear h hn
  have t1 : ((root : Int) != 0) = true := by rw [bne_iff_ne]; omega
  go_enter Tryd.func38, Tryd.ntmps38
  rw [v.vv]
  go_upto_region 1 with fail
  generalize hw3 : World.alloc (World.alloc w _) _ = v3
  obtain ⟨k1, k2, B⟩ := two_boxes_r (cs1 := v.cs) (cs2 := RV.zero.cs) hw3
  clear hw3
  go_wp2_with ((with_reducible refine is_load 60 ?_); refine wp_loadRg w.heap.size v k1 rfl rfl ?_; go_frame)
  refine (HI.out _ B).mono ?_
  rintro e w4 ⟨rfl, b4⟩
  replace k1 := k1.keep b4
  replace k2 := k2.keep b4
  replace B := B.trans (b4.mono B.size)
  go_wp2_with (first
    | ((with_reducible refine is_load 60 ?_); refine wp_loadR w.heap.size v k1 rfl ?_; go_frame)
    | ((with_reducible refine is_store 60 ?_); refine wp_storeR (w.heap.size + 1) _ v k2 rfl rfl rfl ?_; intro w6 k6 r6; go_frame))
  refine bodyPost_ret (results_R2 Tryd.results38 _ _ (w.heap.size + 1) v rfl k6) rfl ⟨rfl, B.grown r6 B.size (fun z hz => by cases hz; omega)⟩
set_option maxRecDepth 100000 in
set_option maxHeartbeats 4000000 in
theorem rcommit_any {N : Nat → Prop} (v : RV) (S : RS) (root : Nat) (A : Option Addr) (n c : Nat) (l : List UInt8) (w : World) (h : RVr N w v S) (h0 : S.rootOk root) (hl : SlR N w ⟨A, n, c⟩ l) (hnum : S.num + 1 < 18446744073709551616) :
    Calls Tryd.prog 38 #[v.v, .int .i64 root, .slice A n c] w fun e w' => (if 256 < n then e = .returned (.tuple #[v.v, .int .i64 13]) else ∃ v' : RV, e = .returned (.tuple #[v'.v, .int .i64 0]) ∧ RVr N w' v' (S.commit root l)) ∧ Below w.heap.size w w' := by
  have HR := hid h
  have HL := hid hl
  clear h hl
  go_enter Tryd.func38, Tryd.ntmps38
  rw [v.vv]
  go_upto_region 1 with fail
  generalize hw3 : World.alloc (World.alloc w _) _ = v3
  obtain ⟨k1, k2, B⟩ := two_boxes_r (cs1 := v.cs) (cs2 := RV.zero.cs) hw3
  clear hw3
  go_cut [15] (fun x wx => x = .bool false ∧ Blk wx w.heap.size 60 v.cs ∧ Blk wx (w.heap.size + 1) 60 RV.zero.cs ∧ Below w.heap.size w wx)
  case first =>
    by_cases hr : root = 0
    · have t1 : ((root : Int) != 0) = false := by rw [bne_eq_false_iff_eq]; omega
      clear hr
      go_wp2_with fail
      go_meet
      case rel => exact ⟨rfl, k1, k2, B⟩
    · have t1 : ((root : Int) != 0) = true := by rw [bne_iff_ne]; omega
      have HI := hid (fun wx (hb : Below w.heap.size w wx) => in_any v S root wx (HR.out.keep hb))
      rw [h0.resolve_left hr] at HI
      go_wp2_with ((with_reducible refine is_load 60 ?_); refine wp_loadRg w.heap.size v k1 rfl rfl ?_; go_frame)
      refine (HI.out _ B).mono ?_
      rintro e w4 ⟨rfl, b4⟩
      go_wp2_with fail
      go_meet
      case rel => exact ⟨rfl, k1.keep b4, k2.keep b4, B.trans (b4.mono B.size)⟩
  case rest =>
    obtain ⟨rfl, k1, k2, B⟩ := hcut
    by_cases hn : 256 < n
    · have tn : (n : Int) > 256 := by omega
      have HN := hid hn
      clear hn
      go_wp2_with (first
        | ((with_reducible refine is_load 60 ?_); refine wp_loadR w.heap.size v k1 rfl ?_; go_frame)
        | ((with_reducible refine is_store 60 ?_); refine wp_storeR (w.heap.size + 1) _ v k2 rfl rfl rfl ?_; intro w6 k6 r6; go_frame))
      refine bodyPost_ret (results_R2 Tryd.results38 _ _ (w.heap.size + 1) v rfl k6) rfl ⟨?_, B.grown r6 B.size (fun z hz => by cases hz; omega)⟩
      first
        | rfl
        | (rw [if_pos HN.out]; rfl)
    · have tn : ¬ (n : Int) > 256 := by omega
      have HN := hid hn
      clear hn
      have hvn := HR.out.num
      have e1 : IntKind.u64.wrap ((v.num : Int) + 1) = ((v.num + 1 : Nat) : Int) := by rw [IntKind.wrap_u64]; omega
      clear hvn
      obtain ⟨x0, x1, x2, x3, x4, x5, x6⟩ := k1.c7
      have l1 := k1.lt
      go_wp2_with (first
        | ((with_reducible refine is_store 3 ?_); refine wp_store1 w.heap.size 1 _ _ (.int .i64 root) k1 rfl (by kernel_rfl) (by show 1 < 7; omega) rfl rfl rfl ?_; intro w5 k5 r5; go_frame)
        | ((with_reducible refine is_store 31 ?_); refine wp_store1 w.heap.size 2 _ _ (.int .u64 ((v.num + 1 : Nat) : Int)) k5 rfl (by kernel_rfl) (by show 2 < 7; omega) rfl rfl rfl ?_; intro w6 k6 r6; go_frame)
        | ((with_reducible refine is_store 40 ?_); refine wp_store1 w.heap.size 3 _ _ (.slice A n c) k6 rfl slN.2.1 (by show 3 < 7; omega) rfl rfl rfl ?_; intro w7 k7 r7; go_frame)
        | ((with_reducible refine is_store 57 ?_); refine wp_store1 w.heap.size 4 _ _ v.k.v k7 rfl slN.1 (by show 4 < 7; omega) rfl rfl rfl ?_; intro w8 k8 r8; go_frame)
        | ((with_reducible refine is_load 60 ?_); refine wp_loadR w.heap.size ⟨v.n, root, v.num + 1, ⟨A, n, c⟩, v.k, v.k, v.b⟩ k8 rfl ?_; go_frame)
        | ((with_reducible refine is_store 60 ?_); refine wp_storeR (w.heap.size + 1) _ ⟨v.n, root, v.num + 1, ⟨A, n, c⟩, v.k, v.k, v.b⟩ ((((k2.grown r5 (by simp)).grown r6 (by simp)).grown r7 (by simp)).grown r8 (by simp)) rfl rfl rfl ?_; intro w9 k9 r9; go_frame))
      have hB5 := B.grown r5 B.size (fun z hz => by cases hz; omega)
      have hB6 := hB5.grown r6 hB5.size (fun z hz => by cases hz; omega)
      have hB7 := hB6.grown r7 hB6.size (fun z hz => by cases hz; omega)
      have hB8 := hB7.grown r8 hB7.size (fun z hz => by cases hz; omega)
      have hB9 := hB8.grown r9 hB8.size (fun z hz => by cases hz; omega)
      have h := HR.out.keep hB9
      have hl := HL.out.keep hB9
      refine bodyPost_ret (results_R2 Tryd.results38 _ _ (w.heap.size + 1) ⟨v.n, root, v.num + 1, ⟨A, n, c⟩, v.k, v.k, v.b⟩ rfl k9) rfl ⟨?_, hB9⟩
      (try rw [if_neg HN.out])
      exact ⟨_, rfl, ⟨⟨h.ok.n, hnum, h.ok.k, h.ok.k, h.ok.b⟩, h.n, rfl, by show v.num + 1 = S.num + 1; rw [h.num], hl, h.k, h.kn, h.k, h.kn, h.b, h.bn⟩⟩
end Go.Proofs.YtanglofabkbllaaDoor
set_option linter.unusedSimpArgs false
set_option linter.unusedVariables false
namespace Go.Proofs.YtanglofabkbllaaDoor
open Go.RowKit

def RS.nowB (S : RS) (i : Nat) : Bool := S.now[i]?.getD false
def RS.usedB (S : RS) (i : Nat) : Bool := S.used[i]?.getD false
/-- the idle pages of the first k -/
def RS.roomC (S : RS) (k : Nat) : Nat := (List.range k).countP (fun i => !S.nowB (i + 1) && !S.usedB (i + 1))
theorem RS.roomC_succ (S : RS) (k : Nat) : S.roomC (k + 1) = S.roomC k + (if (!S.nowB (k + 1) && !S.usedB (k + 1)) = true then 1 else 0) := by
  unfold RS.roomC
  rw [List.range_succ, List.countP_append]
  congr 1
  cases h : (!S.nowB (k + 1) && !S.usedB (k + 1)) <;> simp [h]
theorem RS.roomC_le (S : RS) (k : Nat) : S.roomC k ≤ k := by
  unfold RS.roomC
  have := List.countP_le_length (p := fun i => !S.nowB (i + 1) && !S.usedB (i + 1)) (l := List.range k)
  rwa [List.length_range] at this
theorem RVr.uat {N : Nat → Prop} {w : World} {v : RV} {S : RS} (h : RVr N w v S) {i : Nat} (hi : i ≤ S.n) : ∃ b off, v.u.A = some ⟨b, off, none⟩ ∧ b < w.heap.size ∧ w.cell? ⟨b, off + i, none⟩ = some (.bool (S.usedB i)) := by
  obtain ⟨b, o, x, e, hb, hx, hc⟩ := h.u.1.at1 (k := i) (by omega)
  obtain ⟨bb, hbb, rfl⟩ := bool_at hx
  refine ⟨b, o, e, hb, ?_⟩
  unfold RS.usedB
  rw [hbb]
  exact hc
theorem RVr.kat {N : Nat → Prop} {w : World} {v : RV} {S : RS} (h : RVr N w v S) {i : Nat} (hi : i ≤ S.n) : ∃ b off, v.k.A = some ⟨b, off, none⟩ ∧ b < w.heap.size ∧ w.cell? ⟨b, off + i, none⟩ = some (.bool (S.nowB i)) := by
  obtain ⟨b, o, x, e, hb, hx, hc⟩ := h.k.1.at1 (k := i) (by omega)
  obtain ⟨bb, hbb, rfl⟩ := bool_at hx
  refine ⟨b, o, e, hb, ?_⟩
  unfold RS.nowB
  rw [hbb]
  exact hc
set_option maxRecDepth 100000 in
set_option maxHeartbeats 4000000 in
theorem rroom_any {N : Nat → Prop} (v : RV) (S : RS) (w : World) (h : RVr N w v S) :
    Calls Tryd.prog 57 #[v.v] w fun e w' => e = .returned (.int .i64 (S.roomC S.n)) ∧ Below w.heap.size w w' := by
  have hn1 := h.ok.n
  have HR := hid h
  have hvn := h.n
  have hk := h.kn.1
  have hu := h.un.1
  clear h
  obtain ⟨vn, vr, vm, m, ⟨uA, un, uc⟩, ⟨kA, kn, kc⟩, b⟩ := v
  dsimp only at hvn hk hu
  subst hvn hk hu
  rw [RV.vv]
  dsimp only
  have hP : Blk (w.alloc (.cells (RV.cs ⟨S.n, vr, vm, m, ⟨uA, S.n + 1, uc⟩, ⟨kA, S.n + 1, kc⟩, b⟩).toArray 60)) w.heap.size 60 (RV.cs ⟨S.n, vr, vm, m, ⟨uA, S.n + 1, uc⟩, ⟨kA, S.n + 1, kc⟩, b⟩) := Blk.new w _ _
  have hB : Below w.heap.size w (w.alloc (.cells (RV.cs ⟨S.n, vr, vm, m, ⟨uA, S.n + 1, uc⟩, ⟨kA, S.n + 1, kc⟩, b⟩).toArray 60)) := (Below.refl _ _).alloc (Nat.le_refl _) _
  go_enter Tryd.func57, Tryd.ntmps57
  go_wp2_with fail
  go_loopw [3, 4] (fun c i wr => ∃ k : Nat, k ≤ S.n ∧ i = .int .i64 ((k + 1 : Nat) : Int) ∧ c = .int .i64 (S.roomC k) ∧ Blk wr w.heap.size 60 (RV.cs ⟨S.n, vr, vm, m, ⟨uA, S.n + 1, uc⟩, ⟨kA, S.n + 1, kc⟩, b⟩) ∧ Below w.heap.size w wr) (fun _ i _ => S.n + 1 - (intOf i).toNat)
  case atStart => exact ⟨0, by omega, rfl, rfl, hP, hB⟩
  case round =>
    obtain ⟨k, hk, rfl, rfl, kP, hbel⟩ := hrel
    clear hP hB
    obtain ⟨x0, x1, x2, x3, x4, x5, x6⟩ := kP.c7
    unfold Sl.v at x3 x4 x5 x6
    dsimp only at x3 x4 x5 x6
    have lP := kP.lt
    have hle := S.roomC_le k
    by_cases hlt : k < S.n
    · obtain ⟨b1, o1, rA, hb1, hc1⟩ := (HR.out.keep hbel).uat (i := k + 1) (by omega)
      obtain ⟨b2, o2, rB, hb2, hc2⟩ := (HR.out.keep hbel).kat (i := k + 1) (by omega)
      dsimp only at rA rB
      subst rA rB
      have hs := S.roomC_succ k
      have HS := hid hs
      clear hs
      have tk : ((k + 1 : Nat) : Int) ≤ (S.n : Int) := by omega
      have ti : ((k + 1 : Nat) : Int) < ((S.n + 1 : Nat) : Int) := by omega
      have e1 := IntWalk.i64_in ((S.roomC k : Int) + 1) (by omega)
      obtain ⟨bu, hbu⟩ : ∃ z, S.usedB (k + 1) = z := ⟨_, rfl⟩
      obtain ⟨bn, hbn⟩ : ∃ z, S.nowB (k + 1) = z := ⟨_, rfl⟩
      rw [hbu] at hc1
      rw [hbn] at hc2
      have HB := hid (And.intro hbu hbn)
      clear hbu hbn
      cases bu with
      | true =>
        have HN : Hid (S.roomC (k + 1) = S.roomC k) := hid (by rw [HS.out, HB.out.1]; simp)
        go_wp2_with fail
        go_roundw
        case measure => simp [intOf]; omega
        case rel => exact ⟨k + 1, by omega, by go_num, by rw [HN.out], kP, hbel⟩
      | false =>
        cases bn with
        | true =>
          have HN : Hid (S.roomC (k + 1) = S.roomC k) := hid (by rw [HS.out, HB.out.2]; simp)
          go_wp2_with fail
          go_roundw
          case measure => simp [intOf]; omega
          case rel => exact ⟨k + 1, by omega, by go_num, by rw [HN.out], kP, hbel⟩
        | false =>
          have HN : Hid (S.roomC (k + 1) = S.roomC k + 1) := hid (by rw [HS.out, HB.out.2, HB.out.1]; simp)
          go_wp2_with fail
          go_roundw
          case measure => simp [intOf]; omega
          case rel => exact ⟨k + 1, by omega, by go_num, by rw [HN.out]; go_num, kP, hbel⟩
    · obtain rfl : k = S.n := by omega
      have tk : ¬ ((S.n + 1 : Nat) : Int) ≤ (S.n : Int) := by omega
      go_wp2_with fail
      go_ret
      exact ⟨rfl, hbel⟩
/-- an idle page; the first one -/
def RS.idle (S : RS) (id : Nat) : Prop := 1 ≤ id ∧ id ≤ S.n ∧ S.nowB id = false ∧ S.usedB id = false
def RS.first (S : RS) (id : Nat) : Prop := S.idle id ∧ ∀ j, S.idle j → id ≤ j
def RS.alloc (S : RS) (id : Nat) (l : List UInt8) : RS := { S with bod := S.bod.set id l, now := S.now.set id true }
set_option maxRecDepth 100000 in
set_option maxHeartbeats 2000000 in
theorem ralloc_long (v : RV) (A : Option Addr) (n c : Nat) (w : World) (hn : 1000 < n) :
    Calls Tryd.prog 53 #[v.v, .slice A n c] w fun e w' => e = .returned (.tuple #[v.v, .int .i64 0, .int .i64 13]) ∧ Below w.heap.size w w' := by
  have tn : (n : Int) > 1000 := by omega
  go_enter Tryd.func53, Tryd.ntmps53
  rw [v.vv]
  go_upto_region 1 with fail
  generalize hw3 : World.alloc (World.alloc w _) _ = v3
  obtain ⟨k1, k2, B⟩ := two_boxes_r (cs1 := v.cs) (cs2 := RV.zero.cs) hw3
  clear hw3
  go_wp2_with (first
    | ((with_reducible refine is_load 60 ?_); refine wp_loadR w.heap.size v k1 rfl ?_; go_frame)
    | ((with_reducible refine is_store 60 ?_); refine wp_storeR (w.heap.size + 1) _ v k2 rfl rfl rfl ?_; intro w6 k6 r6; go_frame))
  refine bodyPost_ret (results_R3 Tryd.results53 _ _ (w.heap.size + 1) v rfl k6) rfl ⟨rfl, B.grown r6 B.size (fun z hz => by cases hz; omega)⟩
theorem sls_one (ss : List Sl) : ∀ u ∈ ss.map Sl.v, u.oneCell' = true := by
  intro u hu
  obtain ⟨_, _, rfl⟩ := List.mem_map.1 hu
  rfl
set_option maxRecDepth 100000 in
set_option maxHeartbeats 8000000 in
theorem ralloc_any {N : Nat → Prop} (v : RV) (S : RS) (A : Option Addr) (n c : Nat) (l : List UInt8) (w : World) (h : RVr N w v S) (hN : ∀ b, w.heap.size ≤ b → N b) (hl : SlR N w ⟨A, n, c⟩ l) (hn : n ≤ 1000) :
    Calls Tryd.prog 53 #[v.v, .slice A n c] w fun e w' => (((∀ id, ¬ S.idle id) ∧ e = .returned (.tuple #[v.v, .int .i64 0, .int .i64 11])) ∨ ∃ (id : Nat) (v' : RV), S.first id ∧ e = .returned (.tuple #[v'.v, .int .i64 id, .int .i64 0]) ∧ RVr N w' v' (S.alloc id l)) ∧ Below w.heap.size w w' := by
  have hn1 := h.ok.n
  have tn : ¬ (n : Int) > 1000 := by omega
  have HR := hid h
  have HL := hid hl
  have hvn := h.n
  have hk := h.kn.1
  have hu := h.un.1
  have hbn := h.bn.1
  clear h hl
  obtain ⟨vn, vr, vm, m, ⟨uA, un, uc⟩, ⟨kA, kn, kc⟩, ⟨bA, bn, bc⟩⟩ := v
  dsimp only at hvn hk hu hbn
  subst hvn hk hu hbn
  rw [RV.vv]
  dsimp only
  go_enter Tryd.func53, Tryd.ntmps53
  go_upto_region 1 with fail
  generalize hw3 : World.alloc (World.alloc w _) _ = v3
  obtain ⟨k1, k2, B⟩ := two_boxes_r (cs1 := RV.cs ⟨S.n, vr, vm, m, ⟨uA, S.n + 1, uc⟩, ⟨kA, S.n + 1, kc⟩, ⟨bA, S.n + 1, bc⟩⟩) (cs2 := RV.zero.cs) hw3
  clear hw3
  obtain ⟨V, hV⟩ : ∃ z : RV, z = ⟨S.n, vr, vm, m, ⟨uA, S.n + 1, uc⟩, ⟨kA, S.n + 1, kc⟩, ⟨bA, S.n + 1, bc⟩⟩ := ⟨_, rfl⟩
  rw [← hV] at k1 HR
  have HV := hid hV
  clear hV
  go_wp2_with fail
  go_loopw [7] (fun i wr => ∃ k : Nat, k ≤ S.n ∧ i = .int .i64 ((k + 1 : Nat) : Int) ∧ Blk wr w.heap.size 60 V.cs ∧ Blk wr (w.heap.size + 1) 60 RV.zero.cs ∧ Below w.heap.size w wr ∧ Hid (∀ j, j < k → ¬ S.idle (j + 1))) (fun i _ => S.n + 1 - (intOf i).toNat)
  case atStart => exact ⟨0, by omega, rfl, k1, k2, B, hid (fun j hj => absurd hj (by omega))⟩
  case round =>
    obtain ⟨k, hk, rfl, kP, kR, hbel, HNo⟩ := hrel
    clear k1 k2 B
    have kP' := kP
    rw [HV.out] at kP'
    obtain ⟨x0, x1, x2, x3, x4, x5, x6⟩ := kP'.c7
    unfold Sl.v at x3 x4 x5 x6
    dsimp only at x3 x4 x5 x6
    clear kP'
    have lP := kP.lt
    by_cases hlt : k < S.n
    · obtain ⟨b1, o1, rA, hb1, hc1⟩ := (HR.out.keep hbel).uat (i := k + 1) (by omega)
      obtain ⟨b2, o2, rB, hb2, hc2⟩ := (HR.out.keep hbel).kat (i := k + 1) (by omega)
      rw [HV.out] at rA rB
      dsimp only at rA rB
      subst rA rB
      have tk : ((k + 1 : Nat) : Int) ≤ (S.n : Int) := by omega
      have ti : ((k + 1 : Nat) : Int) < ((S.n + 1 : Nat) : Int) := by omega
      obtain ⟨bu, hbu⟩ : ∃ z, S.usedB (k + 1) = z := ⟨_, rfl⟩
      obtain ⟨bn, hbn⟩ : ∃ z, S.nowB (k + 1) = z := ⟨_, rfl⟩
      rw [hbu] at hc1
      rw [hbn] at hc2
      have HB := hid (And.intro hbu hbn)
      clear hbu hbn
      have HNext : bu = true ∨ bn = true → Hid (∀ j, j < k + 1 → ¬ S.idle (j + 1)) := fun hh => hid (fun j hj => by
        by_cases h : j = k
        · rintro ⟨_, _, h3, h4⟩
          rw [h] at h3 h4
          rw [HB.out.2] at h3
          rw [HB.out.1] at h4
          rcases hh with hh | hh
          · rw [hh] at h4; cases h4
          · rw [hh] at h3; cases h3
        · exact HNo.out j (by omega))
      cases bu with
      | true =>
        have HN2 := HNext (.inl rfl)
        clear HNext
        go_wp2_with fail
        go_roundw
        case measure => simp [intOf]; omega
        case rel => exact ⟨k + 1, by omega, by go_num, kP, kR, hbel, HN2⟩
      | false =>
        cases bn with
        | true =>
          have HN2 := HNext (.inr rfl)
          clear HNext
          go_wp2_with fail
          go_roundw
          case measure => simp [intOf]; omega
          case rel => exact ⟨k + 1, by omega, by go_num, kP, kR, hbel, HN2⟩
        | false =>
          clear HNext
          have HF : Hid (S.first (k + 1)) := hid ⟨⟨by omega, by omega, HB.out.2, HB.out.1⟩, fun j hj => by
            by_cases h : k + 1 ≤ j
            · exact h
            · exfalso
              have h1 := hj.1
              have := HNo.out (j - 1) (by omega)
              rw [show j - 1 + 1 = j by omega] at this
              exact this hj⟩
          clear HNo
          obtain ⟨ss, hbr0, hbs0⟩ := HR.out.b
          rw [HV.out] at hbr0
          dsimp only at hbr0
          have hbr := hbr0.1.below hbel
          have hgw := hbel.size
          have lR := kR.lt
          have hown : wr.ownsRow wr.heap.size 40 1 (.slice none 0 0) 0 [] := World.ownsRow_nil _ _ _ _
          go_upto_region 9 with (at_builtin; refine wp_app _ rfl _ _ 58 rfl wr.heap.size 40 _ 24 slsT _ _ _ hown rfl _ _ _ _ hbr rfl (sls_one _) (by unfold maxLen; omega) (by omega) (Nat.le_refl _) ?_; intro v6 w6 hown6 r6 a6; go_frame)
          rw [Nat.zero_add, List.nil_append] at hown6
          obtain ⟨A6, c6, rfl, _, _, _⟩ := own_form hown6
          obtain ⟨g, rfl, hbase, hglt, hcell, hfz, hset⟩ := own_set hown6 (show k + 1 < S.n + 1 by omega)
          obtain ⟨hs1, hs2⟩ := hset (.slice A n c)
          have hB6 : Below wr.heap.size wr w6 := (Below.refl _ _).grown r6 (Nat.le_refl _) (fun q hq => (hown.lt q hq).1)
          obtain ⟨old, hold⟩ : ∃ z, (ss.map Sl.v)[k + 1]? = some z := ⟨_, List.getElem?_eq_getElem (by have := hown6.1; omega)⟩
          rw [hold] at hcell
          have hB7 := hB6.grown hs2 hB6.size (fun q hq => by cases hq; exact hbase)
          rw [show (ss.map Sl.v).set (k + 1) (.slice A n c) = (ss.set (k + 1) ⟨A, n, c⟩).map Sl.v by rw [List.map_set]; rfl] at hs1
          have kP7 := kP.keep hB7
          have kR7 := kR.keep hB7
          have hb7 := hbel.trans (hB7.mono hbel.size)
          clear hold hset hown r6 a6 hown6 hB6 hs2 hB7
          go_upto_region 10 with fail
          generalize World.setCell w6 _ _ = w7 at hs1 kP7 kR7 hb7 ⊢
          clear hcell hfz x0 x1 x2 x3 x4 x5 x6 kP kR hbel hc1 hc2 hb1 hb2 hbr
          have hgb : ∀ q, (Value.slice (some ⟨g, 0, none⟩) (S.n + 1) c6).ownBlock = some q → w.heap.size + 1 < q := fun q hq => by
            obtain rfl : g = q := by cases hq; rfl
            omega
          obtain ⟨V2, hV2⟩ : ∃ z : RV, z = { V with b := ⟨some ⟨g, 0, none⟩, S.n + 1, c6⟩ } := ⟨_, rfl⟩
          have hcs2 : V.cs.set 6 (.slice (some ⟨g, 0, none⟩) (S.n + 1) c6) = V2.cs := by rw [hV2]; rfl
          have hk2 : V2.k = ⟨some ⟨b2, o2, none⟩, S.n + 1, kc⟩ := by rw [hV2, HV.out]
          have HV2 := hid hV2
          clear hV2
          go_upto_region 11 with ((with_reducible refine is_store 58 ?_); refine wp_store1 w.heap.size 6 _ _ (.slice (some ⟨g, 0, none⟩) (S.n + 1) c6) kP7 rfl slN.2.2.1 (by show 6 < 7; omega) rfl rfl rfl ?_; intro w8 k8 r8; go_frame; rw [hcs2] at k8)
          replace kR7 := kR7.grown r8 (by simp)
          have own8 := hs1.kept r8 (.inr (fun hq => by have := hgb _ hq; omega))
          have hb8 := hb7.grown r8 hb7.size (fun z hz => by cases hz; omega)
          clear hs1 kP7 r8 hb7
          have x5 := k8.c7.2.2.2.2.2.1
          rw [hk2] at x5
          unfold Sl.v at x5
          dsimp only at x5
          have l8 := k8.lt
          have HW := hid (rwith_any (some ⟨b2, o2, none⟩) (S.n + 1) kc (k + 1) true S.now w8 (by have := (HR.out.keep hb8).k.1; rw [HV.out] at this; exact this) (by omega) (by omega))
          go_wp2_with fail
          refine HW.out.mono ?_
          rintro e w9 ⟨A', c', rfl, hown9, b9⟩
          have lR9 := kR7.lt
          replace k8 := k8.keep b9
          replace kR7 := kR7.keep b9
          have own9 := own_below own8 b9
          have hb9 := hb8.trans (b9.mono hb8.size)
          clear b9 own8 hb8 x5 l8 HW
          have hgk : ∀ q, (Value.slice A' (S.n + 1) c').ownBlock = some q → w.heap.size + 1 < q := fun q hq => by
            have := (hown9.lt q hq).1
            omega
          go_wp2_with (first
            | ((with_reducible refine is_store 57 ?_); refine wp_store1 w.heap.size 5 _ _ (.slice A' (S.n + 1) c') k8 rfl slN.1 (by show 5 < 7; omega) rfl rfl rfl ?_; intro w10 k10 r10; go_frame)
            | ((with_reducible refine is_load 60 ?_); refine wp_loadR w.heap.size { V2 with k := ⟨A', S.n + 1, c'⟩ } k10 rfl ?_; go_frame)
            | ((with_reducible refine is_store 60 ?_); refine wp_storeR (w.heap.size + 1) _ { V2 with k := ⟨A', S.n + 1, c'⟩ } (kR7.grown r10 (by simp)) rfl rfl rfl ?_; intro w11 k11 r11; go_frame))
          have hb10 := hb9.grown r10 hb9.size (fun z hz => by cases hz; omega)
          have hb11 := hb10.grown r11 hb10.size (fun z hz => by cases hz; omega)
          have own11 := (own9.kept r10 (.inr (fun hq => by have := hgb _ hq; omega))).kept r11 (.inr (fun hq => by have := hgb _ hq; omega))
          have ownk11 := (hown9.kept r10 (.inr (fun hq => by have := hgk _ hq; omega))).kept r11 (.inr (fun hq => by have := hgk _ hq; omega))
          have h := HR.out.keep hb11
          refine bodyPost_ret (results_R3 Tryd.results53 _ _ (w.heap.size + 1) { V2 with k := ⟨A', S.n + 1, c'⟩ } rfl k11) rfl ⟨.inr ⟨k + 1, { V2 with k := ⟨A', S.n + 1, c'⟩ }, HF.out, rfl, ?_⟩, hb11⟩
          rw [HV2.out]
          have hkr := RN.own ownk11 (N := N) (fun b hb => hN b (by omega))
          obtain ⟨_, _, ek, -, hk1, hk2'⟩ := own_form ownk11
          cases ek
          have hbr2 := RN.own own11 (N := N) (fun b hb => hN b (by omega))
          obtain ⟨_, _, eb, -, hb1', hb2'⟩ := own_form own11
          cases eb
          exact ⟨⟨h.ok.n, h.ok.num, h.ok.u, by show (S.now.set _ _).length = _; rw [List.length_set]; exact h.ok.k, by show (S.bod.set _ _).length = _; rw [List.length_set]; exact h.ok.b⟩, h.n, h.root, h.num, h.m, h.u, h.un, hkr, ⟨rfl, hk1, hk2'⟩, ⟨_, hbr2, (hbs0.keep hb11).set (HL.out.keep hb11) (k + 1)⟩, ⟨rfl, hb1', hb2'⟩⟩
    · obtain rfl : k = S.n := by omega
      have tk : ¬ ((S.n + 1 : Nat) : Int) ≤ (S.n : Int) := by omega
      have HNI : Hid (∀ id, ¬ S.idle id) := hid fun id h => by
        have h1 := h.1
        have h2 := h.2.1
        have := HNo.out (id - 1) (by omega)
        rw [show id - 1 + 1 = id by omega] at this
        exact this h
      go_wp2_with (first
        | ((with_reducible refine is_load 60 ?_); refine wp_loadR w.heap.size V kP rfl ?_; go_frame)
        | ((with_reducible refine is_store 60 ?_); refine wp_storeR (w.heap.size + 1) _ V kR rfl rfl rfl ?_; intro w6 k6 r6; go_frame))
      refine bodyPost_ret (results_R3 Tryd.results53 _ _ (w.heap.size + 1) V rfl k6) rfl ⟨.inl ⟨HNI.out, ?_⟩, hbel.grown r6 hbel.size (fun z hz => by cases hz; omega)⟩
      rw [HV.out]
      rfl
end Go.Proofs.YtanglofabkbllaaDoor
set_option linter.unusedSimpArgs false
set_option linter.unusedVariables false
namespace Go.Proofs.YtanglofabkbllaaDoor
open Go.RowKit

def RS.new (n : Nat) : RS := ⟨n, 0, 1, [], List.replicate (n + 1) false, List.replicate (n + 1) false, List.replicate (n + 1) []⟩
theorem Sls.zeros (N : Nat → Prop) (w : World) (n : Nat) : Sls N w (List.replicate n Sl.zero) (List.replicate n []) := by
  refine ⟨by simp, fun i s l h1 h2 => ?_⟩
  rw [List.getElem?_replicate] at h1 h2
  split at h1
  · cases h1
    rw [if_pos (by assumption)] at h2
    cases h2
    exact ⟨RN.nil _ _ _ _, Nat.le_refl _, by show 0 ≤ _; omega⟩
  · cases h1
set_option maxRecDepth 100000 in
set_option maxHeartbeats 4000000 in
theorem rnew_any {N : Nat → Prop} (n : Nat) (w : World) (hN : ∀ b, w.heap.size ≤ b → N b) (hn : n ≤ 1023) :
    Calls Tryd.prog 24 #[.int .i64 n] w fun e w' => ∃ v : RV, e = .returned v.v ∧ RVr N w' v (RS.new n) ∧ Below w.heap.size w w' := by
  go_enter Tryd.func24, Tryd.ntmps24
  go_wp2_with ((with_reducible refine is_alloc 60 ?_); refine wp_allocB _ arrRS ?_; intro w1 k1 b1 s1; go_frame)
  have l1 := k1.lt
  refine wp_region_head 14 11 [3, 4, 5, 6, 7, 8, 9, 10, 11, 12, 13] [] ((fun kq => ([fun u w' => u = .int .i64 n, fun u w' => u = .int .i64 n, fun u w' => u = .int .i64 ((n : Int) + 1), fun u w' => ∃ (gu : Nat), u = .slice (some ⟨gu, 0, none⟩) (n + 1) (n + 1) ∧ RL w' 1 (some ⟨gu, 0, none⟩) (n + 1) (List.replicate (n + 1) (Value.bool false)) ∧ w.heap.size < gu, fun u w' => u = .int .i64 n, fun u w' => u = .int .i64 ((n : Int) + 1), fun u w' => ∃ (gk : Nat), u = .slice (some ⟨gk, 0, none⟩) (n + 1) (n + 1) ∧ RL w' 1 (some ⟨gk, 0, none⟩) (n + 1) (List.replicate (n + 1) (Value.bool false)) ∧ w.heap.size < gk, fun u w' => u = .int .i64 n, fun u w' => u = .int .i64 ((n : Int) + 1), fun u w' => ∃ (gb : Nat), u = .slice (some ⟨gb, 0, none⟩) (n + 1) (n + 1) ∧ RL w' 1 (some ⟨gb, 0, none⟩) (n + 1) (List.replicate (n + 1) (Value.slice none 0 0)) ∧ w.heap.size < gb, fun u w' => ∃ (gu : Nat), ∃ (gk : Nat), ∃ (gb : Nat), u = (RV.v ⟨n, 0, 1, Sl.zero, ⟨some ⟨gu, 0, none⟩, n + 1, n + 1⟩, ⟨some ⟨gk, 0, none⟩, n + 1, n + 1⟩, ⟨some ⟨gb, 0, none⟩, n + 1, n + 1⟩⟩) ∧ RL w' 1 (some ⟨gu, 0, none⟩) (n + 1) (List.replicate (n + 1) (Value.bool false)) ∧ RL w' 1 (some ⟨gk, 0, none⟩) (n + 1) (List.replicate (n + 1) (Value.bool false)) ∧ RL w' 1 (some ⟨gb, 0, none⟩) (n + 1) (List.replicate (n + 1) (Value.slice none 0 0)) ∧ w.heap.size < gu ∧ w.heap.size < gk ∧ w.heap.size < gb] : List (Value → World → Prop)).getD kq (fun _ _ => True))) (by kernel_rfl) rfl (by kernel_rfl) (.inl rfl) ?grow ?step ?tail
  case step =>
    simp only [List.take_succ_cons, List.take_zero]
    refine HSteps.cons ?_ ?_
    · intro f w' hb hU
      simp only [putAll, List.foldl_cons, List.foldl_nil]
      go_frame
      go_wp2_with fail
      exact ⟨rfl, _, rfl, Below.refl _ _, rfl⟩
    refine HSteps.cons ?_ ?_
    · intro f w' hb hU
      simp only [putAll, List.foldl_cons, List.foldl_nil]
      go_frame
      go_wp2_with fail
      exact ⟨rfl, _, rfl, Below.refl _ _, rfl⟩
    refine HSteps.cons ?_ ?_
    · intro f w' hb hU
      obtain u1 : f 4 = .int .i64 n := hU.get ⟨1, .data⟩ (by simp) rfl
      have e1 := IntWalk.i64_in ((n : Int) + 1) (by omega)
      simp only [putAll, List.foldl_cons, List.foldl_nil]
      go_frame
      try simp only [u1]
      go_wp2_with fail
      exact ⟨rfl, _, rfl, Below.refl _ _, rfl⟩
    refine HSteps.cons ?_ ?_
    · intro f w' hb hU
      obtain u2 : f 5 = .int .i64 ((n : Int) + 1) := hU.get ⟨2, .data⟩ (by simp) rfl
      simp only [putAll, List.foldl_cons, List.foldl_nil]
      go_frame
      try simp only [u2]
      go_wp2_with (at_make; refine wp_make _ rfl _ _ 57 rfl w'.heap.size 4 _ 1 boolT rfl .i64 .i64 _ _ (n + 1) rfl rfl (by go_num) (by go_num) (by omega) (by unfold maxLen; omega) (Nat.le_refl _) ?_; intro w5 hown5 r5; go_frame)
      exact ⟨rfl, _, rfl, ((Below.refl _ _).grown r5 (Nat.le_refl _) (fun k hk => by cases hk)), _, rfl, RL.of_own hown5, (by have := hb.size; omega)⟩
    refine HSteps.cons ?_ ?_
    · intro f w' hb hU
      simp only [putAll, List.foldl_cons, List.foldl_nil]
      go_frame
      go_wp2_with fail
      exact ⟨rfl, _, rfl, Below.refl _ _, rfl⟩
    refine HSteps.cons ?_ ?_
    · intro f w' hb hU
      obtain u4 : f 7 = .int .i64 n := hU.get ⟨4, .data⟩ (by simp) rfl
      have e1 := IntWalk.i64_in ((n : Int) + 1) (by omega)
      simp only [putAll, List.foldl_cons, List.foldl_nil]
      go_frame
      try simp only [u4]
      go_wp2_with fail
      exact ⟨rfl, _, rfl, Below.refl _ _, rfl⟩
    refine HSteps.cons ?_ ?_
    · intro f w' hb hU
      obtain u5 : f 8 = .int .i64 ((n : Int) + 1) := hU.get ⟨5, .data⟩ (by simp) rfl
      simp only [putAll, List.foldl_cons, List.foldl_nil]
      go_frame
      try simp only [u5]
      go_wp2_with (at_make; refine wp_make _ rfl _ _ 57 rfl w'.heap.size 4 _ 1 boolT rfl .i64 .i64 _ _ (n + 1) rfl rfl (by go_num) (by go_num) (by omega) (by unfold maxLen; omega) (Nat.le_refl _) ?_; intro w5 hown5 r5; go_frame)
      exact ⟨rfl, _, rfl, ((Below.refl _ _).grown r5 (Nat.le_refl _) (fun k hk => by cases hk)), _, rfl, RL.of_own hown5, (by have := hb.size; omega)⟩
    refine HSteps.cons ?_ ?_
    · intro f w' hb hU
      simp only [putAll, List.foldl_cons, List.foldl_nil]
      go_frame
      go_wp2_with fail
      exact ⟨rfl, _, rfl, Below.refl _ _, rfl⟩
    refine HSteps.cons ?_ ?_
    · intro f w' hb hU
      obtain u7 : f 10 = .int .i64 n := hU.get ⟨7, .data⟩ (by simp) rfl
      have e1 := IntWalk.i64_in ((n : Int) + 1) (by omega)
      simp only [putAll, List.foldl_cons, List.foldl_nil]
      go_frame
      try simp only [u7]
      go_wp2_with fail
      exact ⟨rfl, _, rfl, Below.refl _ _, rfl⟩
    refine HSteps.cons ?_ ?_
    · intro f w' hb hU
      obtain u8 : f 11 = .int .i64 ((n : Int) + 1) := hU.get ⟨8, .data⟩ (by simp) rfl
      simp only [putAll, List.foldl_cons, List.foldl_nil]
      go_frame
      try simp only [u8]
      go_wp2_with (at_make; refine wp_make _ rfl _ _ 58 rfl w'.heap.size 40 _ 24 slsT rfl .i64 .i64 _ _ (n + 1) rfl rfl (by go_num) (by go_num) (by omega) (by unfold maxLen; omega) (Nat.le_refl _) ?_; intro w5 hown5 r5; go_frame)
      exact ⟨rfl, _, rfl, ((Below.refl _ _).grown r5 (Nat.le_refl _) (fun k hk => by cases hk)), _, rfl, RL.of_own hown5, (by have := hb.size; omega)⟩
    refine HSteps.cons ?_ ?_
    · intro f w' hb hU
      obtain u0 : f 3 = .int .i64 n := hU.get ⟨0, .data⟩ (by simp) rfl
      obtain ⟨gu, u3, v3_0, v3_1⟩ : ∃ (gu : Nat), f 6 = .slice (some ⟨gu, 0, none⟩) (n + 1) (n + 1) ∧ RL w' 1 (some ⟨gu, 0, none⟩) (n + 1) (List.replicate (n + 1) (Value.bool false)) ∧ w.heap.size < gu := hU.get ⟨3, .data⟩ (by simp) rfl
      obtain ⟨gk, u6, v6_0, v6_1⟩ : ∃ (gk : Nat), f 9 = .slice (some ⟨gk, 0, none⟩) (n + 1) (n + 1) ∧ RL w' 1 (some ⟨gk, 0, none⟩) (n + 1) (List.replicate (n + 1) (Value.bool false)) ∧ w.heap.size < gk := hU.get ⟨6, .data⟩ (by simp) rfl
      obtain ⟨gb, u9, v9_0, v9_1⟩ : ∃ (gb : Nat), f 12 = .slice (some ⟨gb, 0, none⟩) (n + 1) (n + 1) ∧ RL w' 1 (some ⟨gb, 0, none⟩) (n + 1) (List.replicate (n + 1) (Value.slice none 0 0)) ∧ w.heap.size < gb := hU.get ⟨9, .data⟩ (by simp) rfl
      simp only [putAll, List.foldl_cons, List.foldl_nil]
      go_frame
      try simp only [u0, u3, u6, u9]
      go_wp2_with fail
      exact ⟨rfl, _, rfl, Below.refl _ _, gu, gk, gb, rfl, v3_0, v6_0, v9_0, ⟨v3_1, v6_1, v9_1⟩⟩
    exact HSteps.nil
  case grow =>
    intro kq u wa wb hb hu
    rcases kq with _ | _ | _ | _ | _ | _ | _ | _ | _ | _ | _ | kq
    · exact hu
    · exact hu
    · exact hu
    · obtain ⟨gu, ue, uf0, uf1⟩ := hu
      exact ⟨gu, ue, uf0.below hb, uf1⟩
    · exact hu
    · exact hu
    · obtain ⟨gk, ue, uf0, uf1⟩ := hu
      exact ⟨gk, ue, uf0.below hb, uf1⟩
    · exact hu
    · exact hu
    · obtain ⟨gb, ue, uf0, uf1⟩ := hu
      exact ⟨gb, ue, uf0.below hb, uf1⟩
    · obtain ⟨gu, gk, gb, ue, uf0, uf1, uf2, uf3⟩ := hu
      exact ⟨gu, gk, gb, ue, uf0.below hb, uf1.below hb, uf2.below hb, uf3⟩
    · trivial
  case tail =>
    intro f w7 hb7 hU
    obtain ⟨gu, gk, gb, u10, v10_0, v10_1, v10_2, v10_3⟩ : ∃ (gu : Nat), ∃ (gk : Nat), ∃ (gb : Nat), f 13 = (RV.v ⟨n, 0, 1, Sl.zero, ⟨some ⟨gu, 0, none⟩, n + 1, n + 1⟩, ⟨some ⟨gk, 0, none⟩, n + 1, n + 1⟩, ⟨some ⟨gb, 0, none⟩, n + 1, n + 1⟩⟩) ∧ RL w7 1 (some ⟨gu, 0, none⟩) (n + 1) (List.replicate (n + 1) (Value.bool false)) ∧ RL w7 1 (some ⟨gk, 0, none⟩) (n + 1) (List.replicate (n + 1) (Value.bool false)) ∧ RL w7 1 (some ⟨gb, 0, none⟩) (n + 1) (List.replicate (n + 1) (Value.slice none 0 0)) ∧ w.heap.size < gu ∧ w.heap.size < gk ∧ w.heap.size < gb := hU.get 10 (by decide)
    simp only [List.drop_succ_cons, List.drop_zero, putAll, List.foldl_cons, List.foldl_nil]
    go_frame
    simp only [u10]
    clear u10
    clear hU
    replace k1 := k1.keep hb7
    have hB := b1.trans (hb7.mono b1.size)
    clear hb7 b1 s1 l1
    go_wp2_with ((with_reducible refine is_store 60 ?_); refine wp_storeR w.heap.size _ ⟨n, 0, 1, Sl.zero, ⟨some ⟨gu, 0, none⟩, n + 1, n + 1⟩, ⟨some ⟨gk, 0, none⟩, n + 1, n + 1⟩, ⟨some ⟨gb, 0, none⟩, n + 1, n + 1⟩⟩ k1 rfl rfl rfl ?_; intro w9 k9 r9; go_frame)
    obtain ⟨n1, n2, n3⟩ := v10_3
    have q1 := RL.grown v10_0 r9 (fun q hq _ b' o' hb' => by cases hq; cases hb'; omega)
    have q2 := RL.grown v10_1 r9 (fun q hq _ b' o' hb' => by cases hq; cases hb'; omega)
    have q3 := RL.grown v10_2 r9 (fun q hq _ b' o' hb' => by cases hq; cases hb'; omega)
    refine bodyPost_ret (results_R1 Tryd.results24 _ _ w.heap.size ⟨n, 0, 1, Sl.zero, ⟨some ⟨gu, 0, none⟩, n + 1, n + 1⟩, ⟨some ⟨gk, 0, none⟩, n + 1, n + 1⟩, ⟨some ⟨gb, 0, none⟩, n + 1, n + 1⟩⟩ rfl k9) rfl ⟨_, rfl, ?_, hB.grown r9 hB.size (fun z hz => by cases hz; omega)⟩
    have er : (RS.new n).used.map Value.bool = List.replicate (n + 1) (Value.bool false) := by show (List.replicate (n + 1) false).map Value.bool = _; rw [List.map_replicate]
    have eb : List.replicate (n + 1) (Value.slice none 0 0) = (List.replicate (n + 1) Sl.zero).map Sl.v := by rw [List.map_replicate]; rfl
    rw [eb] at q3
    exact ⟨⟨hn, by show 1 < _; omega, List.length_replicate, List.length_replicate, List.length_replicate⟩, rfl, rfl, rfl, ⟨RN.nil _ _ _ _, Nat.le_refl _, by show 0 ≤ _; omega⟩, by rw [er]; exact ⟨q1, fun b o hA _ => by cases hA; exact hN _ (by omega)⟩, ⟨rfl, Nat.le_refl _, by show n + 1 ≤ _; omega⟩, by show RN _ _ _ _ _ ((List.replicate (n + 1) false).map Value.bool); rw [List.map_replicate]; exact ⟨q2, fun b o hA _ => by cases hA; exact hN _ (by omega)⟩, ⟨rfl, Nat.le_refl _, by show n + 1 ≤ _; omega⟩, ⟨_, ⟨q3, fun b o hA _ => by cases hA; exact hN _ (by omega)⟩, Sls.zeros _ _ _⟩, ⟨rfl, Nat.le_refl _, by show n + 1 ≤ _; omega⟩⟩
end Go.Proofs.YtanglofabkbllaaDoor
