/- The walk of WalPlays, every argument. Conditions: the table of remainders is laid; the acts read. -/
import Derived.Test.YtlokfndonjldpaaDoorAwake
import Derived.Test.YtlokfndonjldpaaDoorAct
import Derived.Test.YtlokfndonjldpaaDoorLawC
import Derived.Test.YtlokfndonjldpaaDoorIs
import Derived.Test.YtlokfndonjldpaaDoorPend
import Derived.Test.YtlokfndonjldpaaDoorHead
import Derived.Deep.QuietTactic
import Derived.BigQuiet
import Derived.Deep.Cut
import Derived.Deep.CutBlock
import Derived.Deep.DeepCutAuto
import Derived.Deep.RegionLaw
import Derived.Test.YtlokfndonjldpaaDoorMem
import Derived.Test.YtlokfndonjldpaaDoorBy
import Derived.Lib.AppendZeros
import Derived.Test.YtlokfndonjldpaaDoorStep
import Derived.Test.YtlokfndonjldpaaDoorBlk
import Derived.Laws.Rows
import Derived.RegionTactic
import Derived.Test.YtlokfndonjldpaaDoorLawS
import Derived.Test.YtlokfndonjldpaaDoorOpensP
set_option linter.unusedSimpArgs false
set_option linter.unusedVariables false
namespace Go.Proofs.YtlokfndonjldpaaDoor
open Go.RowKit
section
variable {P : Program} (w : World)
theorem zeroCells_toList (m : Nat) : (Builtin.zeroCells #[Value.int .u8 0] m).toList = List.replicate m (Value.int .u8 0) := by
  apply List.ext_getElem
  · simp [Builtin.zeroCells]
  · intro i h1 h2
    simp [Builtin.zeroCells, Nat.mod_one]
theorem zeroCells_eq (m : Nat) : Builtin.zeroCells #[Value.int .u8 0] m = (List.replicate m (Value.int .u8 0)).toArray := by
  rw [← zeroCells_toList]
theorem run_appz (base : Nat) (t tn ty e : TypeId) (kn k : IntKind) (bytes : Nat) (hT : OneC P t e (.int .u8 0) bytes) (htn : P.underlying tn = some (.int kn))
    (v : Value) (n : Nat) (xs : List Value) (hown : w.ownsRow base e 1 v n xs) (m : Nat)
    (h63 : n + m ≤ maxLen) (hbytes : (n + m) * bytes ≤ 140737488355328) (hbase : base ≤ w.heap.size) :
    ∃ v' w', (Builtin.append_ #[t, tn] ty #[v, .int k m]).run P w = .ok v' w' ∧ w'.ownsRow base e 1 v' (n + m) (xs ++ List.replicate m (.int .u8 0)) ∧ w.grownBy w' v.ownBlock ∧
      (v'.ownBlock = v.ownBlock ∨ v'.ownBlock = some w.heap.size) := by
  obtain ⟨ht, ⟨i, hi, hz, hsize, hby⟩, hzs⟩ := hT
  subst hby
  have hsmall : n + m ≤ 9223372036854775807 := by simp only [maxLen] at h63; omega
  have hlr : (List.replicate m (Value.int .u8 0)).length = m := List.length_replicate
  have hlen : (xs ++ List.replicate m (Value.int .u8 0)).length = (n + m) * 1 := by rw [List.length_append, hown.1, hlr, Nat.add_mul]; omega
  have hw : IntKind.i64.wrap (m : Int) = m := by rw [IntKind.wrap_i64]; omega
  have hneg : ¬ ((m : Int) < 0) := by omega
  have hw0 : IntKind.i64.wrap 0 = 0 := by rw [IntKind.wrap_i64]; rfl
  have hmb : m * i.bytes ≤ 140737488355328 := Nat.le_trans (Nat.mul_le_mul_right _ (Nat.le_add_left m n)) hbytes
  have h48i : ¬ (281474976710656 < (m : Int) * (i.bytes : Int)) := by
    rw [← Int.natCast_mul]
    omega
  have hzc : (Value.int IntKind.u8 0).cells = #[.int .u8 0] := rfl
  have grown : ∀ (old : Nat), old < n + m → ∀ (row : Option Nat),
      (w.drew.alloc (.cells (xs.toArray ++ (List.replicate m (Value.int .u8 0)).toArray ++ Builtin.zeroCells #[.int .u8 0] (grownCap w (n + m) old e - (n + m))) e)).ownsRow base e 1
        (.slice (some ⟨w.heap.size, 0, none⟩) (n + m) (grownCap w (n + m) old e)) (n + m) (xs ++ List.replicate m (.int .u8 0)) ∧
      w.grownBy (w.drew.alloc (.cells (xs.toArray ++ (List.replicate m (Value.int .u8 0)).toArray ++ Builtin.zeroCells #[.int .u8 0] (grownCap w (n + m) old e - (n + m))) e)) row := by
    intro old ho row
    have hge := grownCap_ge w (n + m) old e
    have hcm : grownCap w (n + m) old e ≤ maxLen := grownCap_le_maxLen w (n + m) old e h63
    have hxl := hown.1
    refine ⟨⟨hlen, .inr ⟨w.heap.size, _, _, rfl, hbase, heap_alloc_new w.drew _, hge, hcm, ?_, ?_⟩⟩, ⟨rfl, rfl, rfl, by simp, fun k hk _ => heap_alloc_old w.drew _ hk⟩⟩
    · simp only [Array.size_append, List.size_toArray, size_zeroCells, hlr, hxl]
      simp
      omega
    · simp only [Array.toList_append, List.append_assoc]
      rw [← List.append_assoc, ← hlen]
      exact List.take_left
  rcases hown.2 with ⟨rfl, rfl⟩ | ⟨g, cap, cur, rfl, hbg, hg, hnc, hcm, hcs, htake⟩
  · have hx : xs = [] := List.eq_nil_of_length_eq_zero (by simpa using hown.1)
    subst hx
    by_cases hm : m = 0
    · subst hm
      refine ⟨.slice none 0 0, w, ?_, World.ownsRow_nil w base e 1, ⟨rfl, rfl, rfl, Nat.le_refl _, fun _ _ _ => rfl⟩, Or.inl rfl⟩
      simp [Builtin.append_, run_underlying ht, run_underlying htn, sizeOf, typeInfo, hi, asInt, asIntOf, hw0]
    · have hr := Lib.run_append_nil_zeros (P := P) w t tn ty e i (.int .u8 0) k kn ht htn hi hz m (by omega) (by omega) (by omega) (by omega)
      have hgr := grown 0 (by omega) (Value.ownBlock (.slice none 0 0))
      simp only [Nat.zero_add, List.nil_append, Array.empty_append] at hgr ⊢
      rw [hzc, zeroCells_eq m] at hr
      exact ⟨_, _, hr, hgr.1, hgr.2, Or.inr rfl⟩
  · by_cases hroom : n + m ≤ cap
    · have hfit : n + m ≤ cur.size := by rw [hcs]; omega
      have hst := run_storeCells_at P g n e (List.replicate m (Value.int .u8 0)) 0 cur w hg (by rw [hlr]; omega) (fun v hv => by rw [List.eq_of_mem_replicate hv]; rfl)
      simp only [Nat.add_zero] at hst
      have hr : (Builtin.append_ #[t, tn] ty #[.slice (some ⟨g, 0, none⟩) n cap, .int k m]).run P w = .ok (.slice (some ⟨g, 0, none⟩) (n + m) cap) (w.setRow g (cur.toList.take n ++ List.replicate m (Value.int .u8 0) ++ cur.toList.drop (n + (List.replicate m (Value.int .u8 0)).length)).toArray) := by
        by_cases hm : m = 0
        · subst hm
          simp [Builtin.append_, run_underlying ht, run_underlying htn, sizeOf, typeInfo, hi, asInt, asIntOf, hw0, hroom, hnc, hsize, Addr.add_lit, storeCells, setRow_self w g cur e (0, 0) hg]
        · simp [Builtin.append_, run_underlying ht, run_underlying htn, sizeOf, typeInfo, zeroValue, hi, hz, hzc, asInt, asIntOf, hw, hneg, h48i, hroom, hsize, hm, Addr.add_lit, zeroCells_toList, hst]
      refine ⟨_, _, hr, ⟨hlen, .inr ⟨g, cap, _, rfl, hbg, setRow_heap w g cur _ e _ hg, hroom, hcm, ?_, ?_⟩⟩, ⟨rfl, rfl, rfl, by simp, fun k _ hk => setRow_other w g k _ (fun e => hk (by simp [Value.ownBlock, e]))⟩, Or.inl rfl⟩
      · simp only [List.size_toArray, List.length_append, List.length_take, List.length_drop, Array.length_toList, hlr]
        omega
      · rw [Nat.mul_one] at htake
        rw [htake, ← hlen]
        exact List.take_left
    · have holds : ∀ j u, xs[j]? = some u → w.cell? ((⟨g, 0, none⟩ : Addr).add j) = some u := hown.cells (g := g) rfl
      have hfo := run_firstCells_some (P := P) w.drew 1 n ⟨g, 0, none⟩ n cap xs hown.1 (by simpa using holds)
      have hn : ¬ (n + m ≤ cap) := hroom
      have h63' : ¬ (9223372036854775807 < ((n : Int) + (m : Int))) := by omega
      have hfits := growslice_fits (old := cap) (by omega : cap < n + m) hbytes
      have h48' : ¬ (281474976710656 < Builtin.nextslicecap (n + m) cap * i.bytes) := by omega
      have hm : ¬ m = 0 := by omega
      have hr : (Builtin.append_ #[t, tn] ty #[.slice (some ⟨g, 0, none⟩) n cap, .int k m]).run P w = .ok (.slice (some ⟨w.heap.size, 0, none⟩) (n + m) (grownCap w (n + m) cap e))
          (w.drew.alloc (.cells (xs.toArray ++ (List.replicate m (Value.int .u8 0)).toArray ++ Builtin.zeroCells #[.int .u8 0] (grownCap w (n + m) cap e - (n + m))) e)) := by
        simp [Builtin.append_, run_underlying ht, run_underlying htn, sizeOf, typeInfo, zeroValue, hi, hz, hzc, asInt, asIntOf, hw, hneg, h48i, hn, h63', h48', hsize, hm, Question.forced, hfo, newRow, grownCap, zeroCells_eq m]
      have hgr := grown cap (by omega) (Value.ownBlock (.slice (some ⟨g, 0, none⟩) n cap))
      exact ⟨_, _, hr, hgr.1, hgr.2, Or.inr rfl⟩
theorem wp_appz {w : World} {ops : Array Oper} {rest : List Oper} {o : Oper} {a : Act} {Q : Exit → Act → World → Prop} (hgd : o.guard = none) (s x : Operand) (t tn : TypeId)
    (ho : o.op = .call { callee := .builtin .append, args := #[s, x], argTypes := #[t, tn] })
    (base : Nat) (e : TypeId) (kn k : IntKind) (bytes : Nat) (hT : OneC P t e (.int .u8 0) bytes) (htn : P.underlying tn = some (.int kn))
    (v : Value) (n : Nat) (xs : List Value) (hown : w.ownsRow base e 1 v n xs) (hs : a.eval s = v) (m : Nat) (hx : a.eval x = .int k m)
    (h63 : n + m ≤ maxLen) (hbytes : (n + m) * bytes ≤ 140737488355328) (hbase : base ≤ w.heap.size)
    (h : ∀ v' w', w'.ownsRow base e 1 v' (n + m) (xs ++ List.replicate m (.int .u8 0)) → w.grownBy w' v.ownBlock → (v'.ownBlock = v.ownBlock ∨ v'.ownBlock = some w.heap.size) → wpList P ops Q rest (a.put o.dst v') w') :
    wpList P ops Q (o :: rest) a w := by
  obtain ⟨v', w', hrun, h2, h3, h4⟩ := run_appz (P := P) w base t tn o.type e kn k bytes hT htn v n xs hown m h63 hbytes hbase
  exact Lib.wpList_append_run w hgd s x t tn ho v (.int k m) hs hx v' w' hrun (h v' w' h2 h3 h4)
end
end Go.Proofs.YtlokfndonjldpaaDoor
namespace Go.Proofs.YtlokfndonjldpaaDoor
open Go.RowKit
section
variable {P : Program} {ops : Array Oper} {rest : List Oper} {Q : Exit → Act → World → Prop} {K : Act → World → Prop} {E : Prop} {a : Act} {w : World}
theorem step_appz {o : Oper} (hw : Region.wanted o (yielded ops a.tmps) = true) (s x : Operand) (t tn : TypeId)
    (ho : o.op = .call { callee := .builtin .append, args := #[s, x], argTypes := #[t, tn] })
    (base : Nat) (e : TypeId) (kn k : IntKind) (bytes : Nat) (hT : OneC P t e (.int .u8 0) bytes) (htn : P.underlying tn = some (.int kn))
    (v : Value) (n : Nat) (xs : List Value) (hown : w.ownsRow base e 1 v n xs) (hs : a.eval s = v) (m : Nat) (hx : a.eval x = .int k m)
    (h63 : n + m ≤ maxLen) (hbytes : (n + m) * bytes ≤ 140737488355328) (hbase : base ≤ w.heap.size)
    (h : ∀ v' w', w'.ownsRow base e 1 v' (n + m) (xs ++ List.replicate m (.int .u8 0)) → w.grownBy w' v.ownBlock → (v'.ownBlock = v.ownBlock ∨ v'.ownBlock = some w.heap.size) → K (a.put o.dst v') w') :
    if Region.wanted o (yielded ops a.tmps) = true then Oper.wp P o a w K Q else E := by
  rw [if_pos hw]
  obtain ⟨v', w', hrun, h2, h3, h4⟩ := run_appz (P := P) w base t tn o.type e kn k bytes hT htn v n xs hown m h63 hbytes hbase
  unfold Oper.wp
  simp only [execOp, ho, resolve, invoke, builtin, Sem.run_bind, Sem.run_pure, Result.andThen_ok, List.map_toArray, List.map_cons, List.map_nil, hs, hx, hrun]
  exact h v' w' h2 h3 h4
end
end Go.Proofs.YtlokfndonjldpaaDoor
namespace Go.Proofs.YtlokfndonjldpaaDoor
open Go.RowKit

section
variable {P : Program} {ops : Array Oper} {Q : Exit → Act → World → Prop} {K : Act → World → Prop} {E : Prop} {a : Act} {w : World}
theorem step_loadB {o : Oper} (hgd : o.guard = none) (t : TypeId) (x : Operand) (ho : o.op = .load t x) (g : Nat) (hx : a.eval x = .pointer (some ⟨g, 0, none⟩)) (tb : TypeId) (cs : List Value) (d : TypeDesc) (hg : Blk w g tb cs)
    (hu : P.underlying t = some d) (hd : (match d with | .struct _ | .array _ _ => true | _ => false) = true) (hi : (P.info? t).map (·.size) = some cs.length) (h : K (a.put o.dst (.agg cs.toArray)) w) :
    if Region.wanted o (yielded ops a.tmps) = true then Oper.wp P o a w K Q else E := by
  rw [if_pos (by simp [Region.wanted, hgd])]
  exact wp_load_row t x ho g hx tb cs.toArray (0, 0) d hg hu hd (by simpa using hi) h
theorem step_storeB {o : Oper} (hgd : o.guard = none) (t : TypeId) (x y : Operand) (ho : o.op = .store t x y) (hdst : o.dst = none) (g : Nat) (tb : TypeId) (cur cs : List Value) (hg : Blk w g tb cur) (hi : (P.info? t).map (·.size) = some cs.length) (hl : cur.length = cs.length) (h1 : ∀ v ∈ cs, v.oneCell' = true)
    (hx : a.eval x = .pointer (some ⟨g, 0, none⟩)) (hy : a.eval y = .agg cs.toArray) (h : K a (w.setRow g cs.toArray)) :
    if Region.wanted o (yielded ops a.tmps) = true then Oper.wp P o a w K Q else E := by
  rw [if_pos (by simp [Region.wanted, hgd])]
  have hs := run_storeCells_at P g 0 tb cs 0 cur.toArray w hg (by simp; omega) h1
  have hrun : (Instr.storeAt t (.pointer (some ⟨g, 0, none⟩)) (.agg cs.toArray)).run P w = .ok () (w.setRow g cs.toArray) := by
    cases hq : P.info? t with
    | none => simp [hq] at hi
    | some i =>
      simp [hq] at hi
      have e1 : (cur.toArray.toList.take (0 + 0) ++ cs ++ cur.toArray.toList.drop (0 + 0 + cs.length)).toArray = cs.toArray := by
        simp; omega
      rw [e1] at hs
      simp [Instr.storeAt, Instr.sureAddr, storeVar, sizeOf, typeInfo, hq, Value.cells, hi, hs]
  unfold Oper.wp
  simp [execOp, ho, hdst, hx, hy, hrun, Result.andThen, Oper.upon, Act.put]
  exact h
end
theorem eval_put_own (a : Act) (d : Nat) (v : Value) (h : d < a.tmps.size) : (a.put (some d) v).eval (.tmp d) = v := by
  simp [Act.put, Act.eval, Array.getD, h]
theorem grown_drew {w w' : World} {row : Option Nat} (h : w.drew.grownBy w' row) : w.grownBy w' row := ⟨h.os, h.tape, h.output, h.size, fun k hk hr => h.block k hk hr⟩
/-- the orders of a region of two loads and two stores in a chain -/
def movesB (ops : Array Oper) : Bool :=
  let l0 := Array.replicate ops.size false
  let l1 := l0.setIfInBounds 0 true
  let l2 := l0.setIfInBounds 1 true
  decide (Region.ready .any ops l0 = [0, 1]) && decide (Region.ready .any ops l1 = [1, 2]) && decide (Region.ready .any ops (l1.setIfInBounds 1 true) = [2]) &&
  decide (Region.ready .any ops ((l1.setIfInBounds 1 true).setIfInBounds 2 true) = [3]) && decide (Region.ready .any ops (((l1.setIfInBounds 1 true).setIfInBounds 2 true).setIfInBounds 3 true) = []) &&
  decide (Region.ready .any ops (l1.setIfInBounds 2 true) = [1]) && decide (Region.ready .any ops ((l1.setIfInBounds 2 true).setIfInBounds 1 true) = [3]) && decide (Region.ready .any ops (((l1.setIfInBounds 2 true).setIfInBounds 1 true).setIfInBounds 3 true) = []) &&
  decide (Region.ready .any ops l2 = [0]) && decide (Region.ready .any ops (l2.setIfInBounds 0 true) = [2]) && decide (Region.ready .any ops ((l2.setIfInBounds 0 true).setIfInBounds 2 true) = [3]) && decide (Region.ready .any ops (((l2.setIfInBounds 0 true).setIfInBounds 2 true).setIfInBounds 3 true) = [])
theorem wp_moves {P : Program} {id : Nat} {Q : Exit → Act → World → Prop} {a : Act} {w : World} {t1 t2 p1 p2 q1 q2 : Tmp} {T1 T2 ty0 ty1 ty2 ty3 : TypeId} {s0 s1 s2 s3 : String} {f0 f1 f2 f3 : Array Edge}
    (hm : P.follows .mixedOrders = true)
    (hB : movesB #[⟨some t1, .load T1 (.tmp p1), ty0, s0, f0, none⟩, ⟨some t2, .load T2 (.tmp p2), ty1, s1, f1, none⟩, ⟨none, .store T1 (.tmp q1) (.tmp t1), ty2, s2, f2, none⟩, ⟨none, .store T2 (.tmp q2) (.tmp t2), ty3, s3, f3, none⟩] = true)
    (d1 d2 : TypeDesc) (u1 : P.underlying T1 = some d1) (u2 : P.underlying T2 = some d2) (e1 : (match d1 with | .struct _ | .array _ _ => true | _ => false) = true) (e2 : (match d2 with | .struct _ | .array _ _ => true | _ => false) = true)
    (cs1 cs2 : List Value) (i1 : (P.info? T1).map (·.size) = some cs1.length) (i2 : (P.info? T2).map (·.size) = some cs2.length) (o1 : ∀ v ∈ cs1, v.oneCell' = true) (o2 : ∀ v ∈ cs2, v.oneCell' = true)
    (b1 b2 g1 g2 : Nat) (S1 S2 S3 S4 : TypeId) (cur1 cur2 : List Value) (k1 : Blk w b1 S1 cs1) (k2 : Blk w b2 S2 cs2) (m1 : Blk w g1 S3 cur1) (m2 : Blk w g2 S4 cur2) (hl1 : cur1.length = cs1.length) (hl2 : cur2.length = cs2.length)
    (n1 : ¬ g1 = b2) (n2 : ¬ g1 = g2)
    (ht : t1 ≠ t2 ∧ p1 ≠ t1 ∧ p1 ≠ t2 ∧ p2 ≠ t1 ∧ p2 ≠ t2 ∧ q1 ≠ t1 ∧ q1 ≠ t2 ∧ q2 ≠ t1 ∧ q2 ≠ t2) (N : Nat) (hN : a.tmps.size = N) (hz1 : t1 < N) (hz2 : t2 < N)
    (x1 : a.eval (.tmp p1) = .pointer (some ⟨b1, 0, none⟩)) (x2 : a.eval (.tmp p2) = .pointer (some ⟨b2, 0, none⟩)) (y1 : a.eval (.tmp q1) = .pointer (some ⟨g1, 0, none⟩)) (y2 : a.eval (.tmp q2) = .pointer (some ⟨g2, 0, none⟩))
    (hK : ∀ w1 w2, Blk w1 g1 S3 cs1 → w.grownBy w1 (some g1) → Blk w2 g2 S4 cs2 → w1.grownBy w2 (some g2) → Q .normal ((a.put (some t1) (.agg cs1.toArray)).put (some t2) (.agg cs2.toArray)) w2) :
    (Code.region id #[⟨some t1, .load T1 (.tmp p1), ty0, s0, f0, none⟩, ⟨some t2, .load T2 (.tmp p2), ty1, s1, f1, none⟩, ⟨none, .store T1 (.tmp q1) (.tmp t1), ty2, s2, f2, none⟩, ⟨none, .store T2 (.tmp q2) (.tmp t2), ty3, s3, f3, none⟩] true).wp P Q a w := by
  subst hN
  obtain ⟨h12, hp1, hp2, hp3, hp4, hq1, hq2, hq3, hq4⟩ := ht
  refine wp_region_any hm ?_
  show wpAny _ _ _ _ _ _ _ (World.drew w)
  generalize hops : (#[⟨some t1, .load T1 (.tmp p1), ty0, s0, f0, none⟩, ⟨some t2, .load T2 (.tmp p2), ty1, s1, f1, none⟩, ⟨none, .store T1 (.tmp q1) (.tmp t1), ty2, s2, f2, none⟩, ⟨none, .store T2 (.tmp q2) (.tmp t2), ty3, s3, f3, none⟩] : Array Oper) = ops at hB ⊢
  have hsz : ops.size = 4 := by rw [← hops]; rfl
  have g0 : ops[0]? = some ⟨some t1, .load T1 (.tmp p1), ty0, s0, f0, none⟩ := by rw [← hops]; rfl
  have g1' : ops[1]? = some ⟨some t2, .load T2 (.tmp p2), ty1, s1, f1, none⟩ := by rw [← hops]; rfl
  have g2' : ops[2]? = some ⟨none, .store T1 (.tmp q1) (.tmp t1), ty2, s2, f2, none⟩ := by rw [← hops]; rfl
  have g3 : ops[3]? = some ⟨none, .store T2 (.tmp q2) (.tmp t2), ty3, s3, f3, none⟩ := by rw [← hops]; rfl
  unfold movesB at hB
  simp only [Bool.and_eq_true, decide_eq_true_eq] at hB
  obtain ⟨⟨⟨⟨⟨⟨⟨⟨⟨⟨⟨r0, r1⟩, r2⟩, r3⟩, r4⟩, r5⟩, r6⟩, r7⟩, r8⟩, r9⟩, r10⟩, r11⟩ := hB
  rw [hsz] at r0 r1 r2 r3 r4 r5 r6 r7 r8 r9 r10 r11 ⊢
  clear hops
  have v1 : ((a.put (some t1) (.agg cs1.toArray)).put (some t2) (.agg cs2.toArray)).eval (.tmp t1) = .agg cs1.toArray := by
    rw [Act.eval_put (by intro d hd; cases hd; intro h; cases h; exact h12 rfl), eval_put_own _ _ _ hz1]
  have v2 : ((a.put (some t1) (.agg cs1.toArray)).put (some t2) (.agg cs2.toArray)).eval (.tmp t2) = .agg cs2.toArray := eval_put_own _ _ _ (by simpa [Act.put] using hz2)
  have comm : (a.put (some t2) (.agg cs2.toArray)).put (some t1) (.agg cs1.toArray) = (a.put (some t1) (.agg cs1.toArray)).put (some t2) (.agg cs2.toArray) := Act.put_comm a _ _ (by intro d hd; cases hd; intro h; cases h; exact h12 rfl)
  have ev : ∀ (p : Tmp) (b : Act), p ≠ t1 → p ≠ t2 → ∀ v v', ((b.put (some t1) v).put (some t2) v').eval (.tmp p) = b.eval (.tmp p) := fun p b h h' v v' => by
    rw [Act.eval_put (by intro d hd; cases hd; intro e; cases e; exact h' rfl), Act.eval_put (by intro d hd; cases hd; intro e; cases e; exact h rfl)]
  have ev1 : ∀ (p : Tmp) (b : Act), p ≠ t1 → ∀ v, (b.put (some t1) v).eval (.tmp p) = b.eval (.tmp p) := fun p b h v => Act.eval_put (by intro d hd; cases hd; intro e; cases e; exact h rfl)
  have ev2 : ∀ (p : Tmp) (b : Act), p ≠ t2 → ∀ v, (b.put (some t2) v).eval (.tmp p) = b.eval (.tmp p) := fun p b h v => Act.eval_put (by intro d hd; cases hd; intro e; cases e; exact h rfl)
  have s1b : Blk (w.drew.setRow g1 cs1.toArray) g1 S3 cs1 := setRow_heap w.drew g1 _ _ S3 _ m1
  have s1g : w.grownBy (w.drew.setRow g1 cs1.toArray) (some g1) := grown_drew ⟨rfl, rfl, rfl, by simp [World.setRow], fun k _ hk => setRow_other w.drew g1 k _ (fun e => hk (by rw [e]))⟩
  have m2' : Blk (w.drew.setRow g1 cs1.toArray) g2 S4 cur2 := m2.grown s1g (by simpa using n2)
  have k2' : Blk (w.drew.setRow g1 cs1.toArray) b2 S2 cs2 := k2.grown s1g (by simpa using n1)
  have s2b : Blk ((w.drew.setRow g1 cs1.toArray).setRow g2 cs2.toArray) g2 S4 cs2 := setRow_heap _ g2 _ _ S4 _ m2'
  have s2g : (w.drew.setRow g1 cs1.toArray).grownBy ((w.drew.setRow g1 cs1.toArray).setRow g2 cs2.toArray) (some g2) := ⟨rfl, rfl, rfl, by simp [World.setRow], fun k _ hk => setRow_other _ g2 k _ (fun e => hk (by rw [e]))⟩
  have fin := hK _ _ s1b s1g s2b s2g
  have k1' : Blk w.drew b1 S1 cs1 := k1
  have k2d : Blk w.drew b2 S2 cs2 := k2
  have m1d : Blk w.drew g1 S3 cur1 := m1
  refine wpAny_ready r0 (by simp) (AllReady.cons g0 (fun K hK0 => ?_) (AllReady.cons g1' (fun K hK0 => ?_) AllReady.nil))
  · refine step_loadB rfl T1 (.tmp p1) rfl b1 x1 S1 cs1 d1 k1' u1 e1 i1 (hK0 _ _ ?_)
    refine wpAny_ready r1 (by simp) (AllReady.cons g1' (fun K hK0 => ?_) (AllReady.cons g2' (fun K hK0 => ?_) AllReady.nil))
    · refine step_loadB rfl T2 (.tmp p2) rfl b2 ((ev1 _ _ hp3 _).trans x2) S2 cs2 d2 k2d u2 e2 i2 (hK0 _ _ ?_)
      refine wpAny_ready r2 (by simp) (AllReady.cons g2' (fun K hK0 => ?_) AllReady.nil)
      refine step_storeB rfl T1 (.tmp q1) (.tmp t1) rfl rfl g1 S3 cur1 cs1 m1d i1 hl1 o1 ((ev _ _ hq1 hq2 _ _).trans y1) v1 (hK0 _ _ ?_)
      refine wpAny_ready r3 (by simp) (AllReady.cons g3 (fun K hK0 => ?_) AllReady.nil)
      refine step_storeB rfl T2 (.tmp q2) (.tmp t2) rfl rfl g2 S4 cur2 cs2 m2' i2 hl2 o2 ((ev _ _ hq3 hq4 _ _).trans y2) v2 (hK0 _ _ ?_)
      exact wpAny_done r4 fin _
    · refine step_storeB rfl T1 (.tmp q1) (.tmp t1) rfl rfl g1 S3 cur1 cs1 m1d i1 hl1 o1 ((ev1 _ _ hq1 _).trans y1) (eval_put_own _ _ _ hz1) (hK0 _ _ ?_)
      refine wpAny_ready r5 (by simp) (AllReady.cons g1' (fun K hK0 => ?_) AllReady.nil)
      refine step_loadB rfl T2 (.tmp p2) rfl b2 ((ev1 _ _ hp3 _).trans x2) S2 cs2 d2 k2' u2 e2 i2 (hK0 _ _ ?_)
      refine wpAny_ready r6 (by simp) (AllReady.cons g3 (fun K hK0 => ?_) AllReady.nil)
      refine step_storeB rfl T2 (.tmp q2) (.tmp t2) rfl rfl g2 S4 cur2 cs2 m2' i2 hl2 o2 ((ev _ _ hq3 hq4 _ _).trans y2) v2 (hK0 _ _ ?_)
      exact wpAny_done r7 fin _
  · refine step_loadB rfl T2 (.tmp p2) rfl b2 x2 S2 cs2 d2 k2d u2 e2 i2 (hK0 _ _ ?_)
    refine wpAny_ready r8 (by simp) (AllReady.cons g0 (fun K hK0 => ?_) AllReady.nil)
    refine step_loadB rfl T1 (.tmp p1) rfl b1 ((ev2 _ _ hp2 _).trans x1) S1 cs1 d1 k1' u1 e1 i1 (hK0 _ _ ?_)
    show wpAny _ _ _ _ _ _ ((a.put (some t2) (.agg cs2.toArray)).put (some t1) (.agg cs1.toArray)) _
    rw [comm]
    refine wpAny_ready r9 (by simp) (AllReady.cons g2' (fun K hK0 => ?_) AllReady.nil)
    refine step_storeB rfl T1 (.tmp q1) (.tmp t1) rfl rfl g1 S3 cur1 cs1 m1d i1 hl1 o1 ((ev _ _ hq1 hq2 _ _).trans y1) v1 (hK0 _ _ ?_)
    refine wpAny_ready r10 (by simp) (AllReady.cons g3 (fun K hK0 => ?_) AllReady.nil)
    refine step_storeB rfl T2 (.tmp q2) (.tmp t2) rfl rfl g2 S4 cur2 cs2 m2' i2 hl2 o2 ((ev _ _ hq3 hq4 _ _).trans y2) v2 (hK0 _ _ ?_)
    exact wpAny_done r11 fin _
end Go.Proofs.YtlokfndonjldpaaDoor
namespace Go.Proofs.YtlokfndonjldpaaDoor

theorem cur_notW (D : Dk) (i : Nat) (h : ∀ x ∈ D.W, x.1 ≠ i) : D.cur i = D.S i := by
  unfold Dk.cur
  generalize D.W = W at h ⊢
  induction W with
  | nil => rfl
  | cons x l ih =>
    rw [List.foldr_cons]
    unfold upd
    rw [if_neg (fun e => h x (List.mem_cons_self ..) e.symm)]
    exact ih fun y hy => h y (List.mem_cons_of_mem _ hy)
theorem crunW (ch : Nat) : ∀ (l : List (Nat × List UInt8)) (c : Nat) (f : Secs) (i : Nat), (∀ x ∈ l, x.1 ≠ i) → crun ch c f l i = f i
  | [], _, _, _, _ => rfl
  | x :: l, c, f, i, h => by
    rw [crun, crunW ch l _ _ i fun y hy => h y (List.mem_cons_of_mem _ hy)]
    have hne : i ≠ x.1 := fun e => h x (List.mem_cons_self ..) e.symm
    unfold tear
    split
    · exact if_neg hne
    · split
      · exact if_neg hne
      · rfl
/-- after i acts: header sector, no pending write below the records, the log's and the state's numbers -/
structure Pl (k i : Nat) (D : Dk) (l : Lg) (s : Stt) (f : Nat) : Prop where
  n : D.n = k + 3
  W : D.W.length ≤ 30 * i
  low : ∀ x ∈ D.W, 3 ≤ x.1
  hd : D.S 2 = hdr s.e f
  z0 : D.S 0 = zero128
  z1 : D.S 1 = zero128
  f1 : 1 ≤ f
  fn : f ≤ s.nx
  nx : s.nx ≤ 1 + 30 * i
  e1 : 1 ≤ s.e
  e2 : s.e ≤ 1 + i
  g : s.g < 18446744073709551616
  l : l = ⟨2, k, s.e, s.g, s.nx, 2 + s.sec⟩
  s1 : 1 ≤ s.sec
  sk : s.sec ≤ k
theorem Pl.cur_low {k i : Nat} {D : Dk} {l : Lg} {s : Stt} {f : Nat} (h : Pl k i D l s f) (j : Nat) (hj : j < 3) : D.cur j = D.S j :=
  cur_notW D j fun x hx e => by have := h.low x hx; omega
theorem Pl.next {k i : Nat} {D : Dk} {l : Lg} {s : Stt} {f : Nat} (h : Pl k i D l s f) : Pl k (i + 1) D l s f :=
  { h with W := by have := h.W; omega, nx := by have := h.nx; omega, e2 := by have := h.e2; omega }
theorem Pl.sync {k i : Nat} {D : Dk} {l : Lg} {s : Stt} {f : Nat} (h : Pl k i D l s f) : Pl k (i + 1) D.sync l s f :=
  { h.next with
    n := h.n
    W := by show 0 ≤ _; omega
    low := fun x hx => by cases hx
    hd := (h.cur_low 2 (by omega)).trans h.hd
    z0 := (h.cur_low 0 (by omega)).trans h.z0
    z1 := (h.cur_low 1 (by omega)).trans h.z1 }
theorem Pl.crash {k i : Nat} {D : Dk} {l : Lg} {s : Stt} {f : Nat} (h : Pl k i D l s f) (ch : Nat) : Pl k i (D.crash ch) l s f := by
  have hc : ∀ j, j < 3 → (D.crash ch).S j = D.S j := fun j hj => crunW ch _ _ _ j fun x hx e => by
    have := h.low x (List.mem_reverse.1 hx)
    omega
  exact { h with
    n := h.n
    W := by show 0 ≤ _; omega
    low := fun x hx => by cases hx
    hd := (hc 2 (by omega)).trans h.hd
    z0 := (hc 0 (by omega)).trans h.z0
    z1 := (hc 1 (by omega)).trans h.z1 }
/-- both Open's find the same state -/
theorem Pl.open_ {k i : Nat} {D : Dk} {l : Lg} {s : Stt} {f : Nat} (h : Pl k i D l s f) (hk : 1 ≤ k) (hk2 : k ≤ 21) (hi : i ≤ 1000) :
    ∃ (l' : Lg) (s' : Stt) (ps : List (List UInt8)), wopen D.cur 2 k = some (l', ps) ∧ ropen (seg D.cur 2 k) = some (s', ps) ∧ hdrF (D.cur 2) = f ∧ ps.length ≤ k ∧ Pl k (i + 1) D l' s' f := by
  have hc : D.cur 2 = hdr s.e f := (h.cur_low 2 (by omega)).trans h.hd
  have hb1 := h.e2
  have hb2 := h.fn
  have hb3 := h.nx
  have hb4 := h.e1
  have hb5 := h.f1
  obtain ⟨p1, p2⟩ := hdr_parts s.e f (by omega) (by omega)
  have hok : hdrOk (D.cur 2) := by
    rw [hc]
    unfold hdrOk
    rw [p1, p2]
    exact ⟨by omega, by omega, rfl⟩
  have hs : seg D.cur 2 k = D.cur 2 :: regn D.cur 2 k := by
    obtain ⟨q, rfl⟩ : ∃ q, k = q + 1 := ⟨k - 1, by omega⟩
    rw [seg_succ]
    rfl
  have hl : (regn D.cur 2 k).length = k - 1 := by simp [regn]
  have hE : hdrE (D.cur 2) = s.e := by rw [hc]; exact p1
  have hF : hdrF (D.cur 2) = f := by rw [hc]; exact p2
  have hsc := scan_in (k - 1) s.e f 1 (regn D.cur 2 k)
  rw [hl] at hsc
  rw [hs]
  unfold wopen ropen
  simp only [List.headD_cons, List.drop_succ_cons, List.drop_zero, List.length_cons, hl]
  rw [if_pos hok, if_pos hok, hE, hF, show k - 1 + 1 - 1 = k - 1 by omega]
  refine ⟨_, _, _, rfl, rfl, rfl, by omega, ?_⟩
  have hn : (f + (scan (k - 1) s.e f 1 (regn D.cur 2 k)).1.length) % 18446744073709551616 = f + (scan (k - 1) s.e f 1 (regn D.cur 2 k)).1.length := Nat.mod_eq_of_lt (by omega)
  exact { h.next with
    hd := h.hd
    fn := by show f ≤ (f + _) % 18446744073709551616; rw [hn]; omega
    nx := by show (f + _) % 18446744073709551616 ≤ _; rw [hn]; omega
    e1 := h.e1
    e2 := by show s.e ≤ _; omega
    g := Nat.mod_lt _ (by omega)
    l := by
      show (⟨2, k, s.e, _, _, 2 + 1 + _⟩ : Lg) = ⟨2, k, s.e, _, _, 2 + (1 + _)⟩
      rw [Nat.add_assoc 2 1]
    s1 := by show 1 ≤ 1 + _; omega
    sk := by show 1 + _ ≤ k; omega }
theorem Pl.lok {k i : Nat} {D : Dk} {l : Lg} {s : Stt} {f : Nat} (h : Pl k i D l s f) (hk : k ≤ 21) (hi : i ≤ 1000) : l.ok := by
  have h1 := h.nx
  have h2 := h.e2
  have h3 := h.sk
  rw [h.l]
  exact ⟨by show (2 : Nat) ≤ _; omega, by show k ≤ _; omega, by show 2 + s.sec ≤ 2 + k; omega, by show s.e < _; omega, h.g, by show s.nx < _; omega⟩
theorem Pl.reset {k i : Nat} {D : Dk} {l : Lg} {s : Stt} {f : Nat} (h : Pl k i D l s f) (hk : 1 ≤ k) (l' : Lg) (hl : l' = ⟨2, k, s.e + 1, 1, s.nx, 3⟩) :
    Pl k (i + 1) (D.write 2 (hdr (s.e + 1) s.nx)).sync l' ⟨s.e + 1, 1, s.nx, 1⟩ s.nx := by
  have hc : ∀ j, j < 3 → j ≠ 2 → (D.write 2 (hdr (s.e + 1) s.nx)).cur j = D.S j := fun j h1 h2 => by
    rw [Dk.cur_write]
    unfold upd
    rw [if_neg h2]
    exact h.cur_low j h1
  have h1 := h.nx
  have h2 := h.e2
  have h3 := h.f1
  have h4 := h.fn
  exact {
    n := h.n
    W := by show 0 ≤ _; omega
    low := fun x hx => by cases hx
    hd := by show (D.write 2 (hdr (s.e + 1) s.nx)).cur 2 = _; rw [Dk.cur_write]; unfold upd; rw [if_pos rfl]
    z0 := (hc 0 (by omega) (by omega)).trans h.z0
    z1 := (hc 1 (by omega) (by omega)).trans h.z1
    f1 := by omega
    fn := Nat.le_refl _
    nx := by show s.nx ≤ _; omega
    e1 := by show 1 ≤ s.e + 1; omega
    e2 := by show s.e + 1 ≤ _; omega
    g := by show (1 : Nat) < _; omega
    l := hl
    s1 := Nat.le_refl _
    sk := hk }
theorem putSecs_mem : ∀ (D : Dk) (a : Nat) (L : List (List UInt8)), ∀ x ∈ (putSecs D a L).W, x ∈ D.W ∨ a ≤ x.1
  | _, _, [], x, h => .inl h
  | D, a, s :: r, x, h => by
    rcases putSecs_mem (D.write a s) (a + 1) r x h with h | h
    · rcases List.mem_cons.1 h with rfl | h
      · exact .inr (Nat.le_refl _)
      · exact .inl h
    · exact .inr (by omega)
theorem Pl.append {k i : Nat} {D : Dk} {l : Lg} {s : Stt} {f : Nat} (h : Pl k i D l s f) (L : List (List UInt8)) (hL : L.length ≤ 21) (hf : s.sec + L.length ≤ k) (hi : i ≤ 1000) (l' : Lg) (hl : l' = ⟨2, k, s.e, s.g, s.nx + 1, 2 + (s.sec + L.length)⟩) :
    Pl k (i + 1) (putSecs D (2 + s.sec) L) l' ⟨s.e, s.g, s.nx + 1, s.sec + L.length⟩ f := by
  have h0 := h.s1
  have h1 := h.nx
  have h2 := h.e2
  have h3 := h.W
  have h4 := h.fn
  exact {
    n := (putSecs_n D _ L).trans h.n
    W := by rw [putSecs_W]; omega
    low := fun x hx => (putSecs_mem D _ L x hx).elim (h.low x) (fun q => by omega)
    hd := by rw [putSecs_S]; exact h.hd
    z0 := by rw [putSecs_S]; exact h.z0
    z1 := by rw [putSecs_S]; exact h.z1
    f1 := h.f1
    fn := by show f ≤ s.nx + 1; omega
    nx := by show s.nx + 1 ≤ _; omega
    e1 := h.e1
    e2 := by show s.e ≤ _; omega
    g := h.g
    l := hl
    s1 := by show 1 ≤ s.sec + _; omega
    sk := hf }
theorem begin_z (k j : Nat) : (putSecs (Dk.new (k + 3)) (2 + 1) (List.replicate (k - 1) zero128)).cur j = zero128 := by
  rw [cur_ups, putSecs_rev]
  refine ups_same _ _ _ ?_ ?_
  · rw [putSecs_S]; rfl
  · intro x hx
    rw [List.mem_append] at hx
    rcases hx with hx | hx
    · cases hx
    · exact List.eq_of_mem_replicate (nums_snd hx)
theorem zeroB_add (a b : Nat) : zeroB a ++ zeroB b = zeroB (a + b) := by unfold zeroB; rw [List.replicate_append_replicate]
theorem flat_zero : ∀ n, (List.replicate n zero128).flatten = zeroB (128 * n)
  | 0 => rfl
  | n + 1 => by
    rw [List.replicate_succ, List.flatten_cons, flat_zero n, zero128, zeroB_add]
    congr 1
    omega
theorem Pl.begin_ (k : Nat) (hk : 2 ≤ k) : Pl k 0 (created (Dk.new (k + 3)) 2 k) (Lg.first 2 k) ⟨1, 1, 1, 1⟩ 1 := by
  have h := Sv.begin_ k hk
  exact {
    n := by show (putSecs _ _ _).n = _; rw [putSecs_n]; rfl
    W := Nat.le_refl _
    low := fun x hx => by cases hx
    hd := by show upd (putSecs (Dk.new (k + 3)) (2 + 1) (List.replicate (k - 1) zero128)).cur 2 (hdr 1 1) 2 = _; exact upd_eq
    z0 := by
      show upd (putSecs (Dk.new (k + 3)) (2 + 1) (List.replicate (k - 1) zero128)).cur 2 (hdr 1 1) 0 = _
      rw [upd_ne (by omega)]
      exact begin_z k 0
    z1 := by
      show upd (putSecs (Dk.new (k + 3)) (2 + 1) (List.replicate (k - 1) zero128)).cur 2 (hdr 1 1) 1 = _
      rw [upd_ne (by omega)]
      exact begin_z k 1
    f1 := Nat.le_refl _
    fn := Nat.le_refl _
    nx := by show 1 ≤ 1 + 0; omega
    e1 := Nat.le_refl _
    e2 := by show 1 ≤ 1 + 0; omega
    g := by show 1 < _; omega
    l := rfl
    s1 := Nat.le_refl _
    sk := by show 1 ≤ k; omega }
/-- the bytes of the region at the start -/
theorem begin_reg (k : Nat) (hk : 1 ≤ k) : (seg (created (Dk.new (k + 3)) 2 k).cur 2 k).flatten = hdr 1 1 ++ zeroB (128 * (k - 1)) := by
  obtain ⟨q, rfl⟩ : ∃ q, k = q + 1 := ⟨k - 1, by omega⟩
  rw [seg_succ, List.flatten_cons]
  have h2 : (created (Dk.new (q + 1 + 3)) 2 (q + 1)).cur 2 = hdr 1 1 := by show upd (putSecs (Dk.new (q + 1 + 3)) (2 + 1) (List.replicate (q + 1 - 1) zero128)).cur 2 (hdr 1 1) 2 = _; exact upd_eq
  have hz : ∀ j, 2 + 1 ≤ j → j < 2 + 1 + q → (created (Dk.new (q + 1 + 3)) 2 (q + 1)).cur j = zero128 := fun j h1 _ => by
    show upd (putSecs (Dk.new (q + 1 + 3)) (2 + 1) (List.replicate (q + 1 - 1) zero128)).cur 2 (hdr 1 1) j = _
    rw [upd_ne (by omega)]
    exact begin_z (q + 1) j
  rw [h2, seg_congr (g := fun _ => zero128) hz]
  unfold seg
  rw [List.map_const', List.length_range, flat_zero]
  rfl
theorem Pl.reg0 {k i : Nat} {D : Dk} {l : Lg} {s : Stt} {f : Nat} (h : Pl k i D l s f) : (seg D.cur 0 2).flatten = zeroB 256 := by
  have e : seg D.cur 0 2 = [zero128, zero128] := by
    unfold seg
    show [D.cur (0 + 0), D.cur (0 + 1)] = _
    rw [h.cur_low _ (by omega), h.cur_low _ (by omega), h.z0, h.z1]
  rw [e]
  show zero128 ++ (zero128 ++ []) = _
  rw [List.append_nil, zero128, zeroB_add]
/-- some sectors are written over the region's bytes -/
theorem seg_puts (D : Dk) (a k c : Nat) (L : List (List UInt8)) (h128 : ∀ j, j < a + k → (D.cur j).length = 128) (hL : ∀ s ∈ L, s.length = 128) (hc : c + L.length ≤ k) :
    (seg (putSecs D (a + c) L).cur a k).flatten = (seg D.cur a k).flatten.take (c * 128) ++ L.flatten ++ (seg D.cur a k).flatten.drop (c * 128 + L.flatten.length) := by
  have hcur : (putSecs D (a + c) L).cur = ups D.cur (nums (a + c) L) := by
    rw [cur_ups, putSecs_rev, putSecs_S, ups_append, ← cur_ups]
  have lL : L.flatten.length = 128 * L.length := by
    clear hc hcur
    induction L with
    | nil => rfl
    | cons x l ih =>
      rw [List.flatten_cons, List.length_append, ih (fun s hs => hL s (List.mem_cons_of_mem _ hs)), hL x (List.mem_cons_self ..), List.length_cons]
      omega
  have l1 : (seg D.cur a c).flatten.length = c * 128 := by
    rw [seg_flat_len D.cur a c (fun i _ hi => h128 i (by omega))]
    omega
  have l2 : (seg D.cur (a + c) L.length).flatten.length = L.flatten.length := by
    rw [seg_flat_len D.cur (a + c) L.length (fun i _ hi => h128 i (by omega)), lL]
  have e1 := seg_split (ups D.cur (nums (a + c) L)) c a k (by omega)
  have e2 := seg_split D.cur c a k (by omega)
  have e3 := seg_split D.cur L.length (a + c) (k - c) (by omega)
  rw [seg_congr (g := D.cur) (fun i _ hi => ups_out D.cur (a + c) L i (.inl hi)), ups_in L D.cur (a + c) (k - c) (by omega)] at e1
  rw [hcur, e1, e2, e3]
  simp only [List.flatten_append]
  rw [List.take_left' l1, ← List.drop_drop, List.drop_left' l1, List.drop_left' l2, List.append_assoc]
theorem seg_hdr (D : Dk) (k : Nat) (h : List UInt8) (hk : 1 ≤ k) (h128 : (D.cur 2).length = 128) :
    (seg (D.write 2 h).sync.cur 2 k).flatten = h ++ (seg D.cur 2 k).flatten.drop 128 := by
  obtain ⟨q, rfl⟩ : ∃ q, k = q + 1 := ⟨k - 1, by omega⟩
  rw [seg_succ, seg_succ, List.flatten_cons, List.flatten_cons]
  show upd D.cur 2 h 2 ++ (seg (upd D.cur 2 h) (2 + 1) q).flatten = _
  rw [upd_eq, seg_congr (g := D.cur) (fun i h1 _ => upd_ne (by omega)), List.drop_left' h128]
end Go.Proofs.YtlokfndonjldpaaDoor
set_option linter.unusedSimpArgs false
set_option linter.unusedVariables false
namespace Go.Proofs.YtlokfndonjldpaaDoor
open Go.RowKit

theorem arrActP : ArrT Tryd.prog 34 (⟨0, 0, 0, 0⟩ : Ac).cs := (by kernel_rfl : (Tryd.prog.info? 34).map (fun i => (i.zero, i.size)) = some (some (.agg (⟨0, 0, 0, 0⟩ : Ac).cs.toArray), 4))
theorem actNP : (Tryd.prog.info? 34).map (·.size) = some 4 := by kernel_rfl
theorem ac_oneP (x : Ac) : ∀ v ∈ x.cs, v.oneCell' = true := by
  intro v hv
  simp only [Ac.cs, List.mem_cons, List.not_mem_nil, or_false] at hv
  rcases hv with rfl | rfl | rfl | rfl <;> rfl
theorem own_apart {w14 w15 w16 : World} {A4 : Option Addr} {K : Nat} {lr : List UInt8} {e : TypeId} {v5 : Value} {n : Nat} {xs : List Value} (hr4 : RB w14 A4 K lr) (hr5 : RB w15 A4 K lr) (own5 : w15.ownsRow w14.heap.size e 1 v5 n xs) (g6 : w15.grownBy w16 v5.ownBlock) : RB w16 A4 K lr :=
  RL.grown hr5 g6 (fun g hg hn b o hA hbg => by
    have := (own5.lt g hg).1
    obtain ⟨b', o', e, hb, _⟩ := hr4.2 hn
    rw [hA] at e
    cases e
    omega)
theorem Bx.own {w' w'' : World} {G : Nat} {d : DV} {D : Dk} {base : Nat} {v : Value} {n : Nat} {xs : List Value} (h : Bx w' G d D) (hG : G < base) (own : w'.ownsRow base 5 1 v n xs) (g : w'.grownBy w'' v.ownBlock) : Bx w'' G d D :=
  ⟨h.k.grown g (fun e => by have := (own.lt _ e).1; omega), h.d.kept (Kept.own own g (by unfold dkT; decide))⟩
theorem Blk.own {w' w'' : World} {G : Nat} {t : TypeId} {cs : List Value} {base : Nat} {v : Value} {n : Nat} {xs : List Value} (h : Blk w' G t cs) (hG : G < base) (own : w'.ownsRow base 5 1 v n xs) (g : w'.grownBy w'' v.ownBlock) : Blk w'' G t cs :=
  h.grown g (fun e => by have := (own.lt _ e).1; omega)
theorem zrep (Z : Nat) : List.replicate Z (Value.int .u8 0) = (zeroB Z).map byV := by unfold zeroB; rw [List.map_replicate]; rfl
theorem r5_app {w w10 w14 w15 w16 : World} {A4 A6 : Option Addr} {K Z c6 G7 G8 G9 : Nat} {lr hb1 : List UInt8} {v5 : Value} {d0 : DV} {D0 : Dk} {l0 : Lg} {s0 : Stt} (HLR : Hid (lr = hb1 ++ zeroB Z)) (hr4 : RB w14 A4 K lr) (hr5 : RB w15 A4 K lr) (own5 : w15.ownsRow w14.heap.size 5 1 v5 128 (hb1.map byV)) (own6 : w16.ownsRow w14.heap.size 5 1 (.slice A6 K c6) K (hb1.map byV ++ List.replicate Z (.int .u8 0))) (g6 : w15.grownBy w16 v5.ownBlock)
    (c14 : Below w10.heap.size w10 w14) (c15 : Below w10.heap.size w10 w15) (C10 : Below w.heap.size w w10) (K0 : Bx w10 G7 d0 D0) (kl : Blk w10 G8 44 l0.cs) (ks : Blk w10 G9 49 s0.cs) :
    RB w16 A6 K lr ∧ RB w16 A4 K lr ∧ Bx w16 G7 d0 D0 ∧ Blk w16 G8 44 l0.cs ∧ Blk w16 G9 49 s0.cs ∧ Below w.heap.size w w16 := by
  have h1 := K0.k.lt
  have h2 := kl.lt
  have h3 := ks.lt
  have h4 := c14.size
  refine ⟨?_, own_apart hr4 hr5 own5 g6, (K0.keep c15).own (by omega) own5 g6, (kl.keep c15).own (by omega) own5 g6, (ks.keep c15).own (by omega) own5 g6, (C10.trans (c15.mono C10.size)).grown g6 (C10.trans (c15.mono C10.size)).size (fun z hz => by have := (own5.lt z hz).1; have := C10.size; omega)⟩
  unfold RB
  rw [HLR.out, List.map_append, ← zrep]
  exact RL.of_own own6
theorem own_whole {w : World} {base : Nat} {e : TypeId} {A : Option Addr} {n c : Nat} {xs : List Value} (h : w.ownsRow base e 1 (.slice A n c) n xs) (hn : 0 < n) : ∃ g cur, A = some ⟨g, 0, none⟩ ∧ Blk w g e cur ∧ cur.length = c ∧ cur.take n = xs ∧ base ≤ g ∧ n ≤ c ∧ c ≤ 9223372036854775807 := by
  obtain ⟨hl, h | ⟨g', cap, cur, h1, hb, h2, hnc, hcm, h3, h4⟩⟩ := h
  · exact absurd h.2 (by omega)
  · cases h1
    rw [Nat.mul_one] at h3 h4
    exact ⟨g', cur.toList, rfl, h2, by simpa using h3, h4, hb, hnc, by simpa [maxLen] using hcm⟩
/-- bytes are copied into the front part of a block -/
theorem cp_front {w : World} {g : Nat} {t : TypeId} {cur : List Value} {l s lf : List UInt8} {K o m : Nat} (h : Blk w g t (cur.take o ++ (s.map byV).take m ++ cur.drop (o + m))) (hc : cur.take K = l.map byV) (hm : s.length = m) (ho : o + m ≤ K) (hl : l.length = K) (hlf : lf = l.take o ++ s ++ l.drop (o + m)) : RB w (some ⟨g, 0, none⟩) K lf := by
  have hcl : K ≤ cur.length := by have := congrArg List.length hc; rw [List.length_take, List.length_map, hl] at this; omega
  have es : (s.map byV).take m = s.map byV := List.take_of_length_le (by rw [List.length_map, hm]; exact Nat.le_refl _)
  rw [es] at h
  have l1 : (cur.take o).length = o := by rw [List.length_take]; omega
  have l2 : (s.map byV).length = m := by rw [List.length_map, hm]
  have l3 : (cur.drop (o + m)).length = cur.length - (o + m) := List.length_drop
  have e : (cur.take o ++ s.map byV ++ cur.drop (o + m)).take K = lf.map byV := by
    rw [hlf, List.map_append, List.map_append, List.map_take, List.map_drop, ← hc, List.take_take, Nat.min_eq_left (by omega), List.append_assoc, List.append_assoc]
    rw [List.take_append, l1, List.take_of_length_le (l := cur.take o) (by omega), List.take_append, l2, List.take_of_length_le (l := s.map byV) (by omega), List.drop_take, show K - o - m = K - (o + m) by omega]
  have := h.rl 0 K 1 (by rw [List.length_append, List.length_append, l1, l2, l3]; omega)
  rw [List.drop_zero, Nat.mul_one, e] at this
  exact this
theorem room_fit (n k : Nat) (hn : n ≤ 8192) : ((n : Int) > roomOf k) ↔ k < cnt n := by
  unfold roomOf cnt
  split <;> omega
theorem wpList_unguard {P : Program} {ops : Array Oper} {Q : Exit → Act → World → Prop} {a : Act} {w : World} {rest : List Oper} {o : Oper} (h : Region.wanted o (yielded ops a.tmps) = true) (k : wpList P ops Q ({ o with guard := none } :: rest) a w) : wpList P ops Q (o :: rest) a w := by
  unfold wpList at k ⊢
  rw [if_pos h]
  rw [if_pos (by simp [Region.wanted])] at k
  exact k
set_option maxRecDepth 100000 in
set_option maxHeartbeats 40000000 in
theorem plays_walk (n0 : Nat) (A : Option Addr) (n c : Nat) (X : List Ac) (w : World) (hT : Tab w) (hn0 : n0 < 256) (hX : X.length = n) (hr : RL w 4 A n (X.flatMap Ac.cs)) (hok : ∀ x ∈ X, x.ok) (hnc : n ≤ c) (hcm : c ≤ 9223372036854775807) :
    Calls Tryd.prog 8 #[.int .u8 n0, .slice A n c] w fun e w' => e = .returned (.bool true) ∧ Below w.heap.size w w' := by
  have HOK := hid hok
  have HX := hid hX
  have HTb := hid hT
  have HR := hid hr
  clear hok hX hT hr
  by_cases hn : n ≤ 40
  rotate_left
  · have t1 : ((n : Int) > 40) := by omega
    go_enter Tryd.func8, Tryd.ntmps8
    go_wp2_with fail
    refine (awake_any _ HTb.out).mono ?_
    rintro e w1 ⟨rfl, b1⟩
    go_wp2_with fail
    go_ret
    exact ⟨rfl, b1⟩
  · have t1 : ¬ ((n : Int) > 40) := by omega
    go_enter Tryd.func8, Tryd.ntmps8
    go_wp2_with fail
    refine (begin_any n0 w hn0 HTb.out).mono ?_
    have hS0 := Pl.begin_ (2 + n0 % 20) (by omega)
    have hRG0 := begin_reg (2 + n0 % 20) (by omega)
    have hW0 : (created (Dk.new (2 + n0 % 20 + 3)) 2 (2 + n0 % 20)).W.length = 0 := rfl
    have hq0 : 2 ≤ 2 + n0 % 20 ∧ 2 + n0 % 20 ≤ 21 := by omega
    generalize 2 + n0 % 20 = q at hS0 hRG0 hW0 hq0 ⊢
    generalize created (Dk.new (q + 3)) 2 q = D0 at hS0 hRG0 hW0 ⊢
    generalize hl0 : Lg.first 2 q = l0 at hS0 ⊢
    clear hl0
    rintro e w4 ⟨d0, rfl, hd4, b4⟩
    simp only [DV.v, Lg.v]
    go_upto_region 5 with (first
      | ((with_reducible refine is_alloc 38 ?_); refine wp_allocB (w := w4) _ arrDisk ?_; intro w5 k5 b5 s5; go_frame)
      | ((with_reducible refine is_alloc 44 ?_); refine wp_allocN (w4.heap.size + 1) s5 _ arrLog ?_; intro w6 k6 b6 s6; go_frame)
      | ((with_reducible refine is_store 38 ?_); refine wp_storeB w4.heap.size _ _ d0.cs (k5.keep (by rw [s5]; exact b6)) diskN rfl (dv_one _) rfl rfl ?_; intro w7 k7 r7; go_frame)
      | ((with_reducible refine is_store 44 ?_); refine wp_storeB (w4.heap.size + 1) _ _ l0.cs (k6.grown r7 (by simp)) logN rfl (lg_one _) rfl rfl ?_; intro w8 k8 r8; go_frame; obtain ⟨G9, hG9⟩ : ∃ z, w8.heap.size = z := ⟨_, rfl⟩)
      | ((with_reducible refine is_alloc 49 ?_); refine wp_allocN G9 hG9 _ arrSt ?_; intro w9 k9 b9 s9; go_frame)
      | ((with_reducible refine is_store 49 ?_); refine wp_storeB G9 _ _ (⟨1, 1, 1, 1⟩ : Stt).cs k9 stN rfl (st_one _) rfl rfl ?_; intro w10 k10 r10; go_frame))
    have b56 : Below w4.heap.size w4 w6 := b5.trans ((show Below w5.heap.size w5 w6 by rw [s5]; exact b6).mono b5.size)
    have hd8 := ((hd4.keep b56).kept (Kept.grown r7 (k5.keep (by rw [s5]; exact b6)) notDk)).kept (Kept.grown r8 (k6.grown r7 (by simp)) (by unfold dkT; decide))
    have hb9 : Below w8.heap.size w8 w9 := by rw [hG9]; exact b9
    have K8 : Bx w8 w4.heap.size d0 D0 := ⟨k7.grown r8 (by simp), hd8⟩
    have l8 := K8.k.lt
    have m8 := k8.lt
    have K0 : Bx w10 w4.heap.size d0 D0 := ⟨(K8.k.keep hb9).grown r10 (by simp; omega), (hd8.keep hb9).kept (Kept.grown r10 k9 (by unfold dkT; decide))⟩
    have kl := (k8.keep hb9).grown r10 (by simp; omega)
    have C6 := b4.trans (b56.mono b4.size)
    have C7 := C6.grown r7 C6.size (fun z hz => by cases hz; exact b4.size)
    have C8 := C7.grown r8 C7.size (fun z hz => by cases hz; have := b4.size; omega)
    have C9 := C8.trans (hb9.mono C8.size)
    have C10 := C9.grown r10 C9.size (fun z hz => by cases hz; have := C8.size; omega)
    have hG : w.heap.size ≤ w4.heap.size := b4.size
    have hGx : w.heap.size ≤ G9 := by have := C8.size; omega
    have hn79 : ¬ w4.heap.size = G9 ∧ ¬ G9 = w4.heap.size := ⟨by omega, by omega⟩
    have hn89 : ¬ w4.heap.size + 1 = G9 ∧ ¬ G9 = w4.heap.size + 1 := ⟨by omega, by omega⟩
    clear b4 b5 b6 b56 s5 s6 k5 k6 k7 r7 r8 hd4 hd8 C6 C7 C8 C9 hb9 K8 l8 m8 k8 k9 b9 s9 r10 hG9
    generalize w4.heap.size = G7 at *
    obtain ⟨G8, hG8⟩ : ∃ z, G7 + 1 = z := ⟨_, rfl⟩
    rw [hG8] at kl hn89 ⊢
    have hG78 : w.heap.size ≤ G8 ∧ ¬ G7 = G8 ∧ ¬ G8 = G7 := ⟨by omega, by omega, by omega⟩
    clear hG8 w4 w5 w6 w7 w8 w9 t1
    have hlok := hS0.lok (by omega) (by omega)
    have HIs : Hid (∀ w', Calls Tryd.prog 20 #[l0.v, (⟨1, 1, 1, 1⟩ : Stt).v, .int .i64 q] w' fun e w'' => e = .returned (.bool true) ∧ Below w'.heap.size w' w'') :=
      hid fun w' => is_any l0 ⟨1, 1, 1, 1⟩ q w' hlok (by rw [hS0.l]) (by show 1 ≤ q; omega) (by omega) (by rw [hS0.l]; unfold Lg.left; dsimp only; omega)
    obtain ⟨K, hK⟩ : ∃ z, 128 * q = z := ⟨_, rfl⟩
    obtain ⟨Z, hZ⟩ : ∃ z, 128 * (q - 1) = z := ⟨_, rfl⟩
    obtain ⟨lr, hlr⟩ : ∃ z, (seg D0.cur 2 q).flatten = z := ⟨_, rfl⟩
    have HRg : Hid (∀ w', Below w10.heap.size w10 w' → Calls Tryd.prog 23 #[d0.v, .int .i64 2, .int .i64 q] w' fun e w'' => ∃ A c, e = .returned (.slice A K c) ∧ RB w'' A K lr ∧ Below w'.heap.size w' w'') := hid fun w' hb => by
      have R := region_any d0 D0 2 q w' (K0.d.keep hb) (by rw [hS0.n]; omega)
      rw [hlr, hK] at R
      exact R.mono fun e w'' ⟨A, c, h1, h2, h3⟩ => ⟨A, c, h1, RL.of_own h2, h3⟩
    have HHd : Hid (∀ w', Calls Tryd.prog 10 #[.int .u64 1, .int .u64 1] w' fun e w'' => ∃ v, e = .returned v ∧ w''.ownsRow w'.heap.size 5 1 v 128 ((hdr 1 1).map byV) ∧ Below w'.heap.size w' w'') := hid fun w' => refHeader_any 1 1 w' (by omega) (by omega)
    have HPe : Hid (∀ w', Calls Tryd.prog 30 #[d0.v] w' fun e w'' => e = .returned (.int .i64 0) ∧ Below w'.heap.size w' w'') := hid fun w' => by
      have R := pending_any d0 w'
      rw [K0.d.m, hW0] at R
      exact R
    have HLR : Hid (lr = hdr 1 1 ++ zeroB Z) := hid (by rw [← hlr, hRG0, hZ])
    have HLh : Hid ((hdr 1 1).length = 128) := hid (hdr_len 1 1)
    have hKZ : 128 + Z = K ∧ K ≤ 2688 := by omega
    have p1 := IntWalk.i64_in ((q : Int) - 1) (by omega)
    have p2 := IntWalk.i64_in (((q : Int) - 1) * 128) (by omega)
    have p3 : ((q : Int) - 1) * 128 = (Z : Int) := by omega
    have p4 := IntWalk.i64_in (Z : Int) (by omega)
    generalize hdr 1 1 = hb1 at HHd HLR HLh
    have HS0 := hid hS0
    clear hlok hS0 hRG0 hW0 hK hZ hlr
    simp only [DV.v, Lg.v, Stt.v] at HIs HRg HPe
    go_cut [65] (fun v wx => v = .bool false ∧ Bx wx G7 d0 D0 ∧ Blk wx G8 44 l0.cs ∧ Blk wx G9 49 (⟨1, 1, 1, 1⟩ : Stt).cs ∧ Below w.heap.size w wx)
    case first =>
      obtain ⟨x0, x1, x2, x3, x4⟩ := K0.k.c5
      obtain ⟨y0, y1, y2, y3, y4, y5⟩ := kl.c6
      obtain ⟨z0, z1, z2, z3⟩ := k10.c4
      try dsimp only at x0 x1 x2 x3 x4 y0 y1 y2 y3 y4 y5 z0 z1 z2 z3
      have lx := K0.k.lt
      have ly := kl.lt
      have lz := k10.lt
      go_region_law (first
        | (go_simp; go_at_call 20; refine (HIs.out _).mono ?_; rintro e w13 ⟨rfl, b13⟩; have c13 := (Below.refl w10.heap.size w10).drew.trans b13; obtain ⟨u0', u1', u2', u3', u4'⟩ := (K0.k.keep c13).c5; have lx3 := (K0.k.keep c13).lt)
        | (go_simp; go_at_call 23; refine (HRg.out _ c13).mono ?_; rintro e w14 ⟨A4, cc4, rfl, hr4, b14⟩; have c14 := c13.trans (b14.mono c13.size); have cv4 := run_str hr4 25 9 5 cc4 Tryd.underlying25 Tryd.underlying5 Tryd.underlying9)
        | (go_simp; go_at_call 10; refine (HHd.out _).mono ?_; rintro e w15 ⟨v5, rfl, own5, b15⟩; have c15 := c14.trans (b15.mono c14.size); have hr5 := RB.below hr4 b15; have cv5 := run_str hr5 25 9 5 cc4 Tryd.underlying25 Tryd.underlying5 Tryd.underlying9)
        | (go_simp; go_at_call 30; refine (HPe.out _).mono ?_; rintro e w17 ⟨rfl, b17⟩)
        | (refine step_appz (by go_simp) (.tmp 53) (.tmp 56) 25 3 rfl w14.heap.size 5 .i64 .i64 1 bytesT Tryd.underlying3 v5 128 _ own5 (by simp [Act.eval, Act.put]) Z (by simp [Act.eval, Act.put, p4]) (by unfold maxLen; omega) (by omega) b15.size ?_; intro v6 w16 own6 g6 a6; rw [hKZ.1] at own6; obtain ⟨A6, c6, rfl, _, _, _⟩ := own_form own6; obtain ⟨hr7, hr8, K16, kl16, ks16, C16⟩ := r5_app HLR hr4 hr5 own5 own6 g6 c14 c15 C10 K0 kl k10; have cv7 := run_str hr7 25 9 5 c6 Tryd.underlying25 Tryd.underlying5 Tryd.underlying9; have cv8 := run_str hr8 25 9 5 cc4 Tryd.underlying25 Tryd.underlying5 Tryd.underlying9; obtain ⟨s0', s1', s2', s3', s4'⟩ := K16.k.c5))
      all_goals
        (have K18 := K16.keep b17
         have kl18 := kl16.keep b17
         have ks18 := ks16.keep b17
         have C18 := C16.trans (b17.mono C16.size)
         try simp only [List.getElem_toArray, List.getElem_cons_succ, List.getElem_cons_zero]
         try go_frame
         try go_wp2_with fail
         go_meet
         case rel => exact ⟨by simp, K18, kl18, ks18, C18⟩)
    case rest => as_aux_lemma =>
      obtain ⟨rfl, K0, kl0, ks0, C⟩ := hcut
      clear k10 kl HIs HRg HHd HPe HLR HLh p1 p2 p3 p4 hKZ C10
      have hGw := And.intro hG (And.intro hG78.1 hGx)
      obtain ⟨K, hK⟩ : ∃ z, 128 * q = z := ⟨_, rfl⟩
      have p5 : (q : Int) * 128 = (K : Int) := by omega
      have p6 := IntWalk.i64_in (K : Int) (by omega)
      have hKl : 256 ≤ K ∧ K ≤ 2688 := by omega
      have HK := hid hK
      clear hK
      go_wp2_with fail
      go_loopw [10] (fun i wr => ∃ (k : Nat) (d : DV) (D : Dk) (l : Lg) (s : Stt) (f : Nat), k ≤ n ∧ i = .int .i64 k ∧ Bx wr G7 d D ∧ Blk wr G8 44 l.cs ∧ Blk wr G9 49 s.cs ∧ Hid (Pl q k D l s f) ∧ Below w.heap.size w wr) (fun i _ => n - (intOf i).toNat)
      case atStart => exact ⟨0, d0, D0, l0, ⟨1, 1, 1, 1⟩, 1, Nat.zero_le _, rfl, K0, kl0, ks0, HS0, C⟩
      case round => as_aux_lemma =>
        clear K0 kl0 ks0 HS0 C
        obtain ⟨k, d, D, l, s, fe, hk, rfl, kd, kl, ks, HS, hbel⟩ := hrel
        by_cases hlt : k < n
        · obtain ⟨b, off, x, rfl, hbb, hx, hcell⟩ := (HR.out.below hbel).el (f := Ac.cs) (fun _ => rfl) hlt (by omega)
          have C0 := hcell 0 _ rfl
          have C1 := hcell 1 _ rfl
          have C2 := hcell 2 _ rfl
          have C3 := hcell 3 _ rfl
          rw [Nat.add_zero] at C0
          have hxok := HOK.out x (List.mem_of_getElem? hx)
          clear hcell hx
          have HP : Hid (∀ w', Calls Tryd.prog 12 #[x.val] w' fun e w'' => ∃ g, e = .returned (.slice (some ⟨g, 0, none⟩) x.pay.length x.pay.length) ∧ w'.heap.size ≤ g ∧ g < w''.heap.size ∧ RB w'' (some ⟨g, 0, none⟩) x.pay.length x.pay ∧ Below w'.heap.size w' w'') := hid fun w' => (payload_any x w' hxok).mono fun e w'' ⟨g, h1, h2, h3, h4⟩ => ⟨g, h1, h2, Blk.lt h3, h3.cells rfl, h4⟩
          have hpl : x.pay.length < 400 := by
            unfold Ac.pay
            rw [payB_len]
            omega
          have hch := hxok.c
          have hkd := hxok.k
          obtain ⟨md, hmd⟩ : ∃ z, x.kd % 7 = z := ⟨_, rfl⟩
          have em1 : (x.kd : Int).tmod 7 = (md : Int) := by rw [Int.tmod_eq_emod_of_nonneg (by omega)]; omega
          have em2 : (x.kd : Int) % 7 = (md : Int) := by omega
          have hmd7 : md < 7 := by omega
          have HMD := hid hmd
          clear hxok hmd hkd
          generalize hpay : x.pay = pay at *
          clear hpay
          obtain ⟨pl, hpl2⟩ : ∃ z, pay.length = z := ⟨_, rfl⟩
          have HPL := hid hpl2
          rw [hpl2] at HP hpl
          clear hpl2
          have t2 : (k : Int) < (n : Int) := by omega
          have hG7 := kd.k.lt
          have hG8 := kl.lt
          have hG9 := ks.lt
          have hcw := hbel.size
          have HDn := hid HS.out.n
          go_wp2_with (first
            | ((with_reducible refine is_alloc 34 ?_); refine wp_allocB (w := wr) _ arrActP ?_; intro w5 k5 b5 s5; go_frame)
            | ((with_reducible refine is_store 34 ?_); refine wp_storeB wr.heap.size _ _ x.cs k5 actNP rfl (ac_oneP _) rfl rfl ?_; intro w6 k6 r6; go_frame; obtain ⟨a0, a1, a2, a3⟩ := k6.c4; have l6 := k6.lt; obtain ⟨x0, x1, x2, x3, x4⟩ := ((kd.k.keep b5).grown r6 (by simp; omega)).c5))
          have ba : Below wr.heap.size wr w6 := b5.grown r6 b5.size (fun z hz => by cases hz; exact Nat.le_refl _)
          replace kd := kd.keep ba
          replace kl := kl.keep ba
          replace ks := ks.keep ba
          replace hbel := hbel.trans (ba.mono hbel.size)
          obtain ⟨bA, hbA⟩ : ∃ z, wr.heap.size = z := ⟨_, rfl⟩
          rw [hbA] at k6 hG7 hG8 hG9 l6 hcw ⊢
          clear a0 a1 a2 a3 b5 s5 k5 r6 ba C0 C1 C2 C3 hbb hbA x0 x1 x2 x3 x4
          have R := region_any d D 2 q w6 kd.d (by rw [HDn.out]; omega)
          rw [HK.out] at R
          simp only [DV.v] at R
          refine R.mono ?_
          clear R
          rintro e wB ⟨Ab, cb, rfl, ownb, bB⟩
          obtain ⟨gb, cur, rfl, kb, hcl, htk, hgb, hKc, hcm2⟩ := own_whole ownb (by omega)
          have hs6 := k6.lt
          replace kd := kd.keep bB
          replace kl := kl.keep bB
          replace ks := ks.keep bB
          replace k6 := k6.keep bB
          replace hbel := hbel.trans (bB.mono hbel.size)
          have hgg : ¬ gb = G7 ∧ ¬ gb = G8 ∧ ¬ gb = G9 ∧ ¬ gb = bA ∧ w.heap.size ≤ gb := by omega
          have HH8 := hid (fun j (hj : j < 2 + q) => kd.d.len (i := j) (by rw [HDn.out]; omega))
          obtain ⟨lr, hlr⟩ : ∃ z, (seg D.cur 2 q).flatten = z := ⟨_, rfl⟩
          have HLR := hid hlr
          rw [hlr] at htk
          have HTK := hid htk
          have HLL : Hid (lr.length = K) := hid (by rw [← hlr, seg_flat_len D.cur 2 q (fun i _ hi => HH8.out i (by omega)), HK.out])
          clear ownb bB htk hlr l6
          obtain ⟨a0, a1, a2, a3⟩ := k6.c4
          have l6 := k6.lt
          have lb := kb.lt
          go_upto_block 2 with fail
          go_cut [] (fun wx => ∃ (d : DV) (D : Dk) (l : Lg) (s : Stt) (f : Nat), Bx wx G7 d D ∧ Blk wx G8 44 l.cs ∧ Blk wx G9 49 s.cs ∧ Hid (Pl q (k + 1) D l s f) ∧ Below w.heap.size w wx)
          case first => as_aux_lemma =>
            obtain ⟨b0, e0⟩ : ∃ z, ((md : Int) == 0) = z := ⟨_, rfl⟩
            obtain ⟨b1, e1⟩ : ∃ z, ((md : Int) == 1) = z := ⟨_, rfl⟩
            obtain ⟨b2, e2⟩ : ∃ z, ((md : Int) == 2) = z := ⟨_, rfl⟩
            have HB : Hid (decide (md ≤ 2) = (b0 || b1 || b2)) := by
              rw [← e0, ← e1, ← e2]
              show decide (md ≤ 2) = _
              rw [Bool.eq_iff_iff]
              simp only [decide_eq_true_eq, Bool.or_eq_true, beq_iff_eq]
              omega
            go_upto_if 125 with fail
            go_cut [125] (fun v wx => v = .bool (decide (md ≤ 2)) ∧ wB = wx)
            case first =>
              cases b0 with
              | true =>
                go_wp2_with fail
                go_meet
                case rel => exact ⟨by rw [HB.out]; rfl, rfl⟩
              | false =>
                cases b1 with
                | true =>
                  go_wp2_with fail
                  go_meet
                  case rel => exact ⟨by rw [HB.out]; rfl, rfl⟩
                | false =>
                  go_wp2_with fail
                  go_meet
                  case rel => exact ⟨by rw [HB.out]; rfl, rfl⟩
            case rest =>
              obtain ⟨rfl, rfl⟩ := hcut
              clear e0 e1 e2 HB
              by_cases happ : md ≤ 2
              · have e3 : decide (md ≤ 2) = true := by simpa using happ
                rw [e3]
                clear e3
                as_aux_lemma =>
                  have hlok := HS.out.lok (by omega) (by omega)
                  have hinn : l.from_ + l.size ≤ D.n := by rw [HS.out.l, HDn.out]; show 2 + q ≤ q + 3; omega
                  have hWl := HS.out.W
                  have hnx := HS.out.nx
                  have he2 := HS.out.e2
                  have hgl := HS.out.g
                  have hleft : l.left = q - s.sec := by rw [HS.out.l]; unfold Lg.left; dsimp only; omega
                  have hs1 := HS.out.s1
                  have hsk := HS.out.sk
                  obtain ⟨rm, hrm⟩ : ∃ z, roomOf (q - s.sec) = z := ⟨_, rfl⟩
                  have hrf := room_fit pl (q - s.sec) (by omega)
                  rw [hrm] at hrf
                  have HRm : Hid (∀ w', Calls Tryd.prog 22 #[s.v, .int .i64 q] w' fun e w'' => e = .returned (.int .i64 rm) ∧ Below w'.heap.size w' w'') := hid fun w' => by
                    have R := refRoom_any s q w' hsk (by omega)
                    rw [hrm] at R
                    exact R
                  simp only [Stt.v] at HRm
                  go_wp2_with fail
                  refine (HP.out _).mono ?_
                  rintro e w8 ⟨gp, rfl, hgp, hgpl, hpay, b8⟩
                  replace kd := kd.keep b8
                  replace kl := kl.keep b8
                  replace ks := ks.keep b8
                  replace kb := kb.keep b8
                  have hgpw := b8.size
                  replace hbel := hbel.trans (b8.mono hbel.size)
                  clear a0 a1 a2 a3 k6 l6 b8 hrm
                  obtain ⟨x0, x1, x2, x3, x4⟩ := kd.k.c5
                  obtain ⟨y0, y1, y2, y3, y4, y5⟩ := kl.c6
                  try dsimp only at y0 y1 y2 y3 y4 y5
                  have m1 := kd.k.lt
                  have m2 := kl.lt
                  go_wp2_with fail
                  by_cases hfit : cnt pl ≤ l.left
                  · have R := append_good l d D (some ⟨gp, 0, none⟩) pl pl pay w8 kd.d (HTb.out.keep hbel) hlok hpay (by omega) hfit hinn (by omega)
                    obtain ⟨cp, hcp⟩ : ∃ z, cnt pl = z := ⟨_, rfl⟩
                    obtain ⟨nn, hnn⟩ : ∃ z, s.nx + 1 = z := ⟨_, rfl⟩
                    have eA : l.app pl = ⟨2, q, s.e, s.g, nn, 2 + (s.sec + cp)⟩ := by
                      rw [HS.out.l, ← hnn, ← hcp]
                      show Lg.mk 2 q s.e s.g ((s.nx + 1) % 18446744073709551616) (2 + s.sec + cnt pl) = _
                      rw [Nat.mod_eq_of_lt (by omega), Nat.add_assoc]
                    have eT : l.at_ = 2 + s.sec := by rw [HS.out.l]
                    have eB : tagB l.e l.g l.nx = tagB s.e s.g s.nx := by rw [HS.out.l]
                    rw [eA, eT, eB] at R
                    have hLl : (recSecs (tagB s.e s.g s.nx) pay).length = cp := by rw [rs_len, HPL.out, hcp]
                    have hL8 := rs_128 (tagB_len s.e s.g s.nx) pay
                    have hLf : (recSecs (tagB s.e s.g s.nx) pay).flatten.length = 128 * cp := by rw [recSecs_len128 (tagB_len s.e s.g s.nx), HPL.out, hcp]
                    have HBy : Hid (∀ w', RB w' (some ⟨gp, 0, none⟩) pl pay → Calls Tryd.prog 11 #[.int .u64 s.e, .int .u64 s.g, .int .u64 s.nx, .slice (some ⟨gp, 0, none⟩) pl pl] w' fun ex w'' => ∃ v, ex = .returned v ∧ w''.ownsRow w'.heap.size 5 1 v (128 * cp) ((recSecs (tagB s.e s.g s.nx) pay).flatten.map byV) ∧ Below w'.heap.size w' w'') := hid fun w' hp => by
                      have R := refBytes_any s.e s.g s.nx (some ⟨gp, 0, none⟩) pl pl pay w' (by omega) hgl (by omega) hp (by omega)
                      rw [hcp] at R
                      exact R
                    have hcq : s.sec + cp ≤ q := by omega
                    have hc1 : 1 ≤ cp ∧ cp ≤ 6 := by rw [← hcp]; unfold cnt; omega
                    have HS2 := HS.out.append (recSecs (tagB s.e s.g s.nx) pay) (by rw [hLl]; omega) (by rw [hLl]; omega) (by omega) ⟨2, q, s.e, s.g, nn, 2 + (s.sec + cp)⟩ (by rw [hLl, hnn])
                    have hSP := seg_puts D 2 q s.sec (recSecs (tagB s.e s.g s.nx) pay) (fun j hj => HH8.out j (by omega)) hL8 (by rw [hLl]; omega)
                    rw [hLl, hnn] at HS2
                    rw [HLR.out, hLf] at hSP
                    have hPW := putSecs_W D (2 + s.sec) (recSecs (tagB s.e s.g s.nx) pay)
                    have hPn := putSecs_n D (2 + s.sec) (recSecs (tagB s.e s.g s.nx) pay)
                    rw [hLl] at hPW
                    rw [HDn.out] at hPn
                    generalize recSecs (tagB s.e s.g s.nx) pay = L at *
                    clear hL8 hLl
                    generalize L.flatten = bl at *
                    obtain ⟨lf, hlf⟩ : ∃ z, (seg (putSecs D (2 + s.sec) L).cur 2 q).flatten = z := ⟨_, rfl⟩
                    rw [hlf] at hSP
                    generalize putSecs D (2 + s.sec) L = DN at *
                    obtain ⟨l2, hl2⟩ : ∃ z, (⟨2, q, s.e, s.g, nn, 2 + (s.sec + cp)⟩ : Lg) = z := ⟨_, rfl⟩
                    rw [hl2] at R HS2
                    obtain ⟨so, hso⟩ : ∃ z, s.sec * 128 = z := ⟨_, rfl⟩
                    obtain ⟨bn, hbn⟩ : ∃ z, 128 * cp = z := ⟨_, rfl⟩
                    obtain ⟨ns, hns⟩ : ∃ z, s.sec + cp = z := ⟨_, rfl⟩
                    obtain ⟨mo, hmo⟩ : ∃ z, D.W.length = z := ⟨_, rfl⟩
                    have HMo := hid hmo
                    rw [hmo] at hPW
                    rw [hso, hbn] at hSP
                    rw [hbn] at HBy hLf
                    rw [hns] at HS2
                    have HSP := hid hSP
                    have HLF := hid hlf
                    have HPW := hid hPW
                    have HPn := hid hPn
                    have HBL := hid hLf
                    replace HS2 := hid HS2
                    have hbK : so + bn ≤ K ∧ 128 ≤ bn ∧ so < K ∧ ¬ cb = so ∧ so ≤ K ∧ so ≤ cb := by have := HK.out; omega
                    have z1 : IntKind.u64.wrap ((s.nx : Int) + 1) = (nn : Int) := by rw [IntKind.wrap_u64]; omega
                    have z2 : (s.sec : Int) * 128 = (so : Int) := by omega
                    have z3 := IntWalk.i64_in (so : Int) (by omega)
                    have z4 : (s.sec : Int) + (cp : Int) = (ns : Int) := by omega
                    have z5 := IntWalk.i64_in (ns : Int) (by omega)
                    have t7 : ¬ ((pl : Int) > rm) := by rw [hrf, hcp]; omega
                    have n1 := hbK.2.2.2.1
                    have kr : ∀ wx, (Instr.slice 25 (.slice (some ⟨gb, 0, none⟩) K cb) (some (.int .i64 (so : Int))) none none).run Tryd.prog wx = .ok (.slice (some ⟨gb, so, none⟩) (K - so) (cb - so)) wx := fun wx => by
                      have := run_from (P := Tryd.prog) 25 5 Tryd.underlying25 bytesN (some ⟨gb, 0, none⟩) K cb so .i64 (so : Int) (by omega) (by omega) wx
                      rw [if_neg n1] at this
                      simpa [add_spot] using this
                    have HSc : Hid (∀ w', Calls Tryd.prog 31 #[.int .i64 pl] w' fun e w'' => e = .returned (.int .i64 cp) ∧ Below w'.heap.size w' w'') := hid fun w' => by
                      have R := refSectors_any pl w' (by omega)
                      rw [hcp] at R
                      exact R.mono fun e w'' ⟨h1, h2⟩ => ⟨h1, by rw [← h2]; exact Below.refl _ _⟩
                    have HNx := hid hnx
                    clear eA eT eB hl2 hSP hlf hPW hPn hLf hlok hinn hWl hnx he2 hgl hleft hs1 hnn hcp hso hbn hns hmo hrf hfit hsk hcq
                    dsimp only [DV.v, Lg.v] at R
                    refine R.mono ?_
                    clear R x0 x1 x2 x3 x4 y0 y1 y2 y3 y4 y5 m1 m2
                    rintro e w9 ⟨dx, rfl, hd9, b9⟩
                    have hpay9 := RB.below hpay b9
                    have hgp9 : gp < w9.heap.size ∧ gb ≠ gp := ⟨Nat.lt_of_lt_of_le hgpl b9.size, by omega⟩
                    replace kd := kd.keep b9
                    replace kl := kl.keep b9
                    replace ks := ks.keep b9
                    replace kb := kb.keep b9
                    replace hbel := hbel.trans (b9.mono hbel.size)
                    have m1 := kd.k.lt
                    have m2 := kl.lt
                    have m3 := ks.lt
                    have m4 := kb.lt
                    clear b9
                    go_wp2_with (first
                      | ((with_reducible refine is_alloc 38 ?_); refine wp_allocB (w := w9) _ arrDisk ?_; intro w10 k10 b10 s10; go_frame)
                      | ((with_reducible refine is_alloc 44 ?_); refine wp_allocN (w9.heap.size + 1) s10 _ arrLog ?_; intro w11 k11 b11 s11; go_frame)
                      | ((with_reducible refine is_store 38 ?_); refine wp_storeB w9.heap.size _ _ dx.cs (k10.keep (by rw [s10]; exact b11)) diskN rfl (dv_one _) rfl rfl ?_; intro w12 k12 r12; go_frame)
                      | ((with_reducible refine is_store 44 ?_); refine wp_storeB (w9.heap.size + 1) _ _ l2.cs (k11.grown r12 (by simp)) logN rfl (lg_one _) rfl rfl ?_; intro w13 k13 r13; go_frame; have b11' : Below w9.heap.size w9 w11 := b10.trans ((show Below w10.heap.size w10 w11 by rw [s10]; exact b11).mono b10.size); have ks13 := ((ks.keep b11').grown r12 (by simp; omega)).grown r13 (by simp; omega); obtain ⟨y0, y1, y2, y3⟩ := ks13.c4; have ls13 := ks13.lt))
                    have K13 := ((Kept.below b11').trans (Kept.grown r12 (k10.keep (by rw [s10]; exact b11)) notDk)).trans (Kept.grown r13 (k11.grown r12 (by simp)) (by unfold dkT; decide))
                    have kd13 : Bx w13 G7 d D := ⟨((kd.k.keep b11').grown r12 (by simp; omega)).grown r13 (by simp; omega), kd.d.kept K13⟩
                    have kl13 := ((kl.keep b11').grown r12 (by simp; omega)).grown r13 (by simp; omega)
                    have kb13 := ((kb.keep b11').grown r12 (by simp; omega)).grown r13 (by simp; omega)
                    have C11 := hbel.trans (b11'.mono hbel.size)
                    have C12 := C11.grown r12 C11.size (fun z hz => by cases hz; have := hbel.size; omega)
                    have C13 := C12.grown r13 C12.size (fun z hz => by cases hz; have := hbel.size; omega)
                    have hd13 := hd9.kept K13
                    have kx13 := k12.grown r13 (by simp)
                    have kx13' : Bx w13 w9.heap.size dx DN := ⟨kx13, hd13⟩
                    have hpay13 := RL.grown (RL.grown (RB.below hpay9 b11') r12 (fun g hg _ b o hA hbg => by cases hg; cases hA; omega)) r13 (fun g hg _ b o hA hbg => by cases hg; cases hA; omega)
                    clear y0 y1 y2 y3 ls13 kd kl ks kb hbel b10 b11 b11' s10 s11 k10 k11 k12 r12 r13 hd9 hd13 kx13 C11 C12 K13 hpay9
                    have n7 : ¬ G7 = w9.heap.size ∧ ¬ G7 = w9.heap.size + 1 ∧ ¬ G8 = w9.heap.size ∧ ¬ G8 = w9.heap.size + 1 ∧ ¬ G9 = w9.heap.size ∧ ¬ G9 = w9.heap.size + 1 ∧ ¬ gb = w9.heap.size ∧ ¬ gb = w9.heap.size + 1 ∧ ¬ gp = w9.heap.size ∧ ¬ gp = w9.heap.size + 1 := ⟨by omega, by omega, by omega, by omega, by omega, by omega, by omega, by omega, by omega, by omega⟩
                    generalize w9.heap.size = bX at *
                    obtain ⟨bY, hbY⟩ : ∃ z, bX + 1 = z := ⟨_, rfl⟩
                    rw [hbY] at k13 n7 ⊢
                    have hneXY : ¬ bX = bY := by omega
                    clear hbY m1 m2 m3 m4
                    refine (HRm.out _).mono ?_
                    rintro e w14 ⟨rfl, b14⟩
                    have kd14 := kd13.keep b14
                    have kl14 := kl13.keep b14
                    have ks14 := ks13.keep b14
                    have kb14 := kb13.keep b14
                    have kx14 := kx13'.keep b14
                    have km14 := k13.keep b14
                    have hpay14 : RB w14 (some ⟨gp, 0, none⟩) pl pay := RB.below hpay13 b14
                    have C14 := C13.trans (b14.mono C13.size)
                    obtain ⟨v0, v1, v2, v3⟩ := ks14.c4
                    have l14 := ks14.lt
                    clear b14 kd13 kl13 ks13 kb13 kx13' k13 hpay13 C13
                    go_wp2_with fail
                    refine (HBy.out _ hpay14).mono ?_
                    rintro e w15 ⟨v, rfl, ownv, b15⟩
                    obtain ⟨A8, c8, rfl, hr8, _, _⟩ := own_form ownv
                    have kd15 := kd14.keep b15
                    have kl15 := kl14.keep b15
                    have ks15 := ks14.keep b15
                    have kb15 := kb14.keep b15
                    have kx15 := kx14.keep b15
                    have km15 := km14.keep b15
                    have C15 := C14.trans (b15.mono C14.size)
                    clear v0 v1 v2 v3 l14 b15 kd14 kl14 ks14 kb14 kx14 km14 C14 hpay14
                    obtain ⟨v0, v1, v2, v3⟩ := ks15.c4
                    have l15 := ks15.lt
                    have l15b := kb15.lt
                    go_upto_region 33 with (first
                      | ((with_reducible refine is_copy ?_); refine wp_copyB gb so (K - so) (cb - so) 5 5 _ kb15 Tryd.underlying25 bytesN A8 bn c8 _ hr8 (byV_one _) rfl rfl (by rw [hcl]; omega) ?_; intro w16 kb16 r16; go_frame; have ks16 := ks15.grown r16 (by simp; omega); obtain ⟨u0', u1', u2', u3'⟩ := ks16.c4; have l16 := ks16.lt)
                      | ((with_reducible refine is_store 27 ?_); refine wp_store1 G9 2 _ _ (.int .u64 nn) ks16 rfl numN.1 (by simp [Stt.cs]) rfl rfl rfl ?_; intro w17 ks17 r17; go_frame))
                    have emin : min bn (K - so) = bn := by omega
                    rw [emin] at kb16
                    have kd17 : Bx w17 G7 d D := ⟨(kd15.k.grown r16 (by simp; omega)).grown r17 (by simp; omega), (kd15.d.kept (Kept.grown r16 kb15 (by unfold dkT; decide))).kept (Kept.grown r17 ks16 (by unfold dkT; decide))⟩
                    have kx17 : Bx w17 bX dx DN := ⟨(kx15.k.grown r16 (by simp; omega)).grown r17 (by simp; omega), (kx15.d.kept (Kept.grown r16 kb15 (by unfold dkT; decide))).kept (Kept.grown r17 ks16 (by unfold dkT; decide))⟩
                    have kl17 := (kl15.grown r16 (by simp; omega)).grown r17 (by simp; omega)
                    have km17 := (km15.grown r16 (by simp; omega)).grown r17 (by simp; omega)
                    have kb17 := kb16.grown r17 (by simp; omega)
                    have C16 := C15.grown r16 C15.size (fun z hz => by cases hz; omega)
                    have C17 := C16.grown r17 C16.size (fun z hz => by cases hz; omega)
                    replace ks17 : Blk w17 G9 49 (⟨s.e, s.g, nn, s.sec⟩ : Stt).cs := ks17
                    clear v0 v1 v2 v3 u0' u1' u2' u3' l15 l15b l16 kd15 kl15 ks15 kb15 kx15 km15 C15 ks16 kb16 r16 r17 C16 ownv hr8 emin
                    refine wp_region_head 251 7 [166, 167, 168, 169, 170, 171, 172] [] ((fun kq => ([fun u w' => u = .pointer (some ⟨G9, 3, none⟩), fun u w' => u = .int .i64 (s.sec : Int), fun u w' => u = .slice (some ⟨gp, 0, none⟩) pl pl, fun u w' => u = .int .i64 (pl : Int), fun u w' => u = .int .i64 (cp : Int), fun u w' => u = .int .i64 (ns : Int), fun u w' => u = .pointer (some ⟨G9, 3, none⟩)] : List (Value → World → Prop)).getD kq (fun _ _ => True))) (by kernel_rfl) rfl (by kernel_rfl) (.inl rfl) ?grow ?step ?tail
                    case step =>
                      simp only [List.take_succ_cons, List.take_zero]
                      refine HSteps.cons ?_ ?_
                      · intro f w' hb hU
                        simp only [putAll, List.foldl_cons, List.foldl_nil]
                        go_frame
                        go_wp2_with fail
                        exact ⟨rfl, _, rfl, Below.refl _ _, rfl⟩
                      refine HSteps.cons ?_ ?_
                      · intro f w' hb hU
                        obtain u0 : f 166 = .pointer (some ⟨G9, 3, none⟩) := hU.get ⟨0, .data⟩ (by simp) rfl
                        obtain ⟨c0, c1, c2, c3⟩ := (ks17.keep hb).c4
                        simp only [putAll, List.foldl_cons, List.foldl_nil]
                        go_frame
                        try simp only [u0]
                        go_wp2_with fail
                        exact ⟨rfl, _, rfl, Below.refl _ _, rfl⟩
                      refine HSteps.cons ?_ ?_
                      · intro f w' hb hU
                        simp only [putAll, List.foldl_cons, List.foldl_nil]
                        go_frame
                        go_wp2_with fail
                        exact ⟨rfl, _, rfl, Below.refl _ _, rfl⟩
                      refine HSteps.cons ?_ ?_
                      · intro f w' hb hU
                        obtain u2 : f 168 = .slice (some ⟨gp, 0, none⟩) pl pl := hU.get ⟨2, .data⟩ (by simp) rfl
                        simp only [putAll, List.foldl_cons, List.foldl_nil]
                        go_frame
                        try simp only [u2]
                        go_wp2_with fail
                        exact ⟨rfl, _, rfl, Below.refl _ _, rfl⟩
                      refine HSteps.cons ?_ ?_
                      · intro f w' hb hU
                        obtain u3 : f 169 = .int .i64 (pl : Int) := hU.get ⟨3, .data⟩ (by simp) rfl
                        simp only [putAll, List.foldl_cons, List.foldl_nil]
                        go_frame
                        try simp only [u3]
                        go_wp2_with fail
                        refine (HSc.out w').mono ?_
                        rintro e w3 ⟨rfl, b3⟩
                        go_wp2_with fail
                        exact ⟨rfl, _, rfl, b3, rfl⟩
                      refine HSteps.cons ?_ ?_
                      · intro f w' hb hU
                        obtain u1 : f 167 = .int .i64 (s.sec : Int) := hU.get ⟨1, .data⟩ (by simp) rfl
                        obtain u4 : f 170 = .int .i64 (cp : Int) := hU.get ⟨4, .data⟩ (by simp) rfl
                        simp only [putAll, List.foldl_cons, List.foldl_nil]
                        go_frame
                        try simp only [u1, u4]
                        go_wp2_with fail
                        exact ⟨rfl, _, rfl, Below.refl _ _, rfl⟩
                      refine HSteps.cons ?_ ?_
                      · intro f w' hb hU
                        obtain u0 : f 166 = .pointer (some ⟨G9, 3, none⟩) := hU.get ⟨0, .phase⟩ (by simp) rfl
                        obtain u1 : f 167 = .int .i64 (s.sec : Int) := hU.get ⟨1, .phase⟩ (by simp) rfl
                        obtain u2 : f 168 = .slice (some ⟨gp, 0, none⟩) pl pl := hU.get ⟨2, .phase⟩ (by simp) rfl
                        obtain u3 : f 169 = .int .i64 (pl : Int) := hU.get ⟨3, .phase⟩ (by simp) rfl
                        obtain u4 : f 170 = .int .i64 (cp : Int) := hU.get ⟨4, .phase⟩ (by simp) rfl
                        obtain u5 : f 171 = .int .i64 (ns : Int) := hU.get ⟨5, .phase⟩ (by simp) rfl
                        simp only [putAll, List.foldl_cons, List.foldl_nil]
                        go_frame
                        try simp only [u0, u1, u2, u3, u4, u5]
                        go_wp2_with fail
                        exact ⟨rfl, _, rfl, Below.refl _ _, rfl⟩
                      exact HSteps.nil
                    case grow =>
                      intro kq u wa wb hb hu
                      rcases kq with _ | _ | _ | _ | _ | _ | _ | kq
                      · exact hu
                      · exact hu
                      · exact hu
                      · exact hu
                      · exact hu
                      · exact hu
                      · exact hu
                      · trivial
                    case tail =>
                      intro f w7 hb7 hU
                      obtain u5 : f 171 = .int .i64 (ns : Int) := hU.get 5 (by decide)
                      obtain u6 : f 172 = .pointer (some ⟨G9, 3, none⟩) := hU.get 6 (by decide)
                      simp only [List.drop_succ_cons, List.drop_zero, putAll, List.foldl_cons, List.foldl_nil]
                      go_frame
                      simp only [u5, u6]
                      clear u5 u6
                      clear hU
                      have kd18 := kd17.keep hb7
                      have kl18 := kl17.keep hb7
                      have ks18 := ks17.keep hb7
                      have kb18 := kb17.keep hb7
                      have kx18 := kx17.keep hb7
                      have km18 := km17.keep hb7
                      have C18 := C17.trans (hb7.mono C17.size)
                      clear kd17 kl17 ks17 kb17 kx17 km17 C17 hb7
                      go_upto_region 34 with ((with_reducible refine is_store 3 ?_); refine wp_store1 G9 3 _ _ (.int .i64 ns) ks18 rfl numN.2 (by simp [Stt.cs]) rfl rfl rfl ?_; intro w19 ks19 r19; go_frame)
                      have kd19 : Bx w19 G7 d D := ⟨kd18.k.grown r19 (by simp; omega), kd18.d.kept (Kept.grown r19 ks18 (by unfold dkT; decide))⟩
                      have kx19 : Bx w19 bX dx DN := ⟨kx18.k.grown r19 (by simp; omega), kx18.d.kept (Kept.grown r19 ks18 (by unfold dkT; decide))⟩
                      have kl19 := kl18.grown r19 (by simp; omega)
                      have km19 := km18.grown r19 (by simp; omega)
                      have kb19 := kb18.grown r19 (by simp; omega)
                      have C19 := C18.grown r19 C18.size (fun z hz => by cases hz; omega)
                      replace ks19 : Blk w19 G9 49 (⟨s.e, s.g, nn, ns⟩ : Stt).cs := ks19
                      clear kd18 kl18 ks18 kb18 kx18 km18 C18 r19
                      have hrf : RB w19 (some ⟨gb, 0, none⟩) K lf := cp_front (l := lr) kb19 HTK.out HBL.out (by omega) HLL.out HSP.out
                      clear kb19
                      have HRg : Hid (∀ w', Below w19.heap.size w19 w' → Calls Tryd.prog 23 #[dx.v, .int .i64 2, .int .i64 q] w' fun e w'' => ∃ A c, e = .returned (.slice A K c) ∧ RB w'' A K lf ∧ Below w'.heap.size w' w'') := hid fun w' hb => by
                        have R := region_any dx DN 2 q w' (kx19.d.keep hb) (by rw [HPn.out]; omega)
                        rw [HLF.out, HK.out] at R
                        exact R.mono fun e w'' ⟨A, c, h1, h2, h3⟩ => ⟨A, c, h1, RL.of_own h2, h3⟩
                      obtain ⟨mx, hmx⟩ : ∃ z, mo + cp = z := ⟨_, rfl⟩
                      have HPe : Hid (∀ w', Calls Tryd.prog 30 #[dx.v] w' fun e w'' => e = .returned (.int .i64 mx) ∧ Below w'.heap.size w' w'') := hid fun w' => by
                        have R := pending_any dx w'
                        rw [kx19.d.m, HPW.out, hmx] at R
                        exact R
                      have HPo : Hid (∀ w', Calls Tryd.prog 30 #[d.v] w' fun e w'' => e = .returned (.int .i64 mo) ∧ Below w'.heap.size w' w'') := hid fun w' => by
                        have R := pending_any d w'
                        rw [kd19.d.m, HMo.out] at R
                        exact R
                      have t9 : ¬ ((mx : Int) < (mo : Int)) := by omega
                      have t9b : decide ((mx : Int) < (mo : Int)) = false := by simp; omega
                      have kx := kx19.k
                      have kdk := kd19.k
                      have HRF := hid hrf
                      clear hrf hmx
                      go_wp2_with fail
                      refine wp_region_head 251 18 [173, 174, 175, 176, 177, 178, 179, 180, 181, 182, 183, 184, 185, 186, 187, 188, 189, 190] [] ((fun kq => ([fun u w' => u = .int .i64 0, fun u w' => u = .bool false, fun u w' => u = .bool false, fun u w' => u = dx.v, fun u w' => u = .int .i64 (q : Int), fun u w' => ∃ (A' : Option Addr), ∃ (c' : Nat), u = .slice A' K c' ∧ RB w' A' K lf, fun u w' => u = .string ⟨lf.toArray⟩, fun u w' => u = .slice (some ⟨gb, 0, none⟩) K cb, fun u w' => u = .string ⟨lf.toArray⟩, fun u w' => u = .bool false, fun u w' => u = .bool false, fun u w' => u = .bool false, fun u w' => u = dx.v, fun u w' => u = .int .i64 (mx : Int), fun u w' => u = d.v, fun u w' => u = .int .i64 (mo : Int), fun u w' => u = .bool false, fun u w' => u = .bool false] : List (Value → World → Prop)).getD kq (fun _ _ => True))) (by kernel_rfl) rfl (by kernel_rfl) (.inl rfl) ?grow ?step ?tail
                      case step =>
                        simp only [List.take_succ_cons, List.take_zero]
                        refine HSteps.cons ?_ ?_
                        · intro f w' hb hU
                          simp only [putAll, List.foldl_cons, List.foldl_nil]
                          go_frame
                          go_wp2_with fail
                          exact ⟨rfl, _, rfl, Below.refl _ _, rfl⟩
                        refine HSteps.cons ?_ ?_
                        · intro f w' hb hU
                          obtain u0 : f 173 = .int .i64 0 := hU.get ⟨0, .data⟩ (by simp) rfl
                          simp only [putAll, List.foldl_cons, List.foldl_nil]
                          go_frame
                          try simp only [u0]
                          go_wp2_with fail
                          exact ⟨rfl, _, rfl, Below.refl _ _, rfl⟩
                        refine HSteps.cons ?_ ?_
                        · intro f w' hb hU
                          obtain u1 : f 174 = .bool false := hU.get ⟨1, .data⟩ (by simp) rfl
                          simp only [putAll, List.foldl_cons, List.foldl_nil]
                          go_frame
                          try simp only [u1]
                          go_wp2_with fail
                          exact ⟨rfl, _, rfl, Below.refl _ _, rfl⟩
                        refine HSteps.cons ?_ ?_
                        · intro f w' hb hU
                          simp only [putAll, List.foldl_cons, List.foldl_nil]
                          go_frame
                          obtain u2 : f 175 = .bool false := hU.get ⟨2, .guard⟩ (by simp) rfl
                          obtain ⟨x0', x1', x2', x3', x4'⟩ := (kx.keep hb).c5
                          try simp only [u2]
                          go_wp2_with fail
                          exact ⟨rfl, _, rfl, Below.refl _ _, rfl⟩
                        refine HSteps.cons ?_ ?_
                        · intro f w' hb hU
                          simp only [putAll, List.foldl_cons, List.foldl_nil]
                          go_frame
                          obtain u2 : f 175 = .bool false := hU.get ⟨2, .guard⟩ (by simp) rfl
                          try simp only [u2]
                          go_wp2_with fail
                          exact ⟨rfl, _, rfl, Below.refl _ _, rfl⟩
                        refine HSteps.cons ?_ ?_
                        · intro f w' hb hU
                          simp only [putAll, List.foldl_cons, List.foldl_nil]
                          go_frame
                          obtain u3 : f 176 = dx.v := hU.get ⟨3, .data⟩ (by simp) rfl
                          obtain u4 : f 177 = .int .i64 (q : Int) := hU.get ⟨4, .data⟩ (by simp) rfl
                          obtain u2 : f 175 = .bool false := hU.get ⟨2, .chain⟩ (by simp) rfl
                          try simp only [u3, u4, u2]
                          go_wp2_with fail
                          refine (HRg.out w' hb).mono ?_
                          rintro e w3 ⟨A', c', rfl, hrr, b3⟩
                          go_wp2_with fail
                          exact ⟨rfl, _, rfl, b3, A', c', rfl, hrr⟩
                        refine HSteps.cons ?_ ?_
                        · intro f w' hb hU
                          simp only [putAll, List.foldl_cons, List.foldl_nil]
                          go_frame
                          obtain ⟨A', c', u5, v5_0⟩ : ∃ (A' : Option Addr), ∃ (c' : Nat), f 178 = .slice A' K c' ∧ RB w' A' K lf := hU.get ⟨5, .data⟩ (by simp) rfl
                          obtain u2 : f 175 = .bool false := hU.get ⟨2, .guard⟩ (by simp) rfl
                          have cv := run_str (v5_0) 25 9 5 c' Tryd.underlying25 Tryd.underlying5 Tryd.underlying9
                          try simp only [u5, u2]
                          go_wp2_with fail
                          exact ⟨rfl, _, rfl, Below.refl _ _, rfl⟩
                        refine HSteps.cons ?_ ?_
                        · intro f w' hb hU
                          simp only [putAll, List.foldl_cons, List.foldl_nil]
                          go_frame
                          obtain u2 : f 175 = .bool false := hU.get ⟨2, .guard⟩ (by simp) rfl
                          try simp only [u2]
                          go_wp2_with fail
                          exact ⟨rfl, _, rfl, Below.refl _ _, rfl⟩
                        refine HSteps.cons ?_ ?_
                        · intro f w' hb hU
                          simp only [putAll, List.foldl_cons, List.foldl_nil]
                          go_frame
                          obtain u7 : f 180 = .slice (some ⟨gb, 0, none⟩) K cb := hU.get ⟨7, .data⟩ (by simp) rfl
                          obtain u2 : f 175 = .bool false := hU.get ⟨2, .guard⟩ (by simp) rfl
                          have cv := run_str (RB.below HRF.out hb) 25 9 5 cb Tryd.underlying25 Tryd.underlying5 Tryd.underlying9
                          try simp only [u7, u2]
                          go_wp2_with fail
                          exact ⟨rfl, _, rfl, Below.refl _ _, rfl⟩
                        refine HSteps.cons ?_ ?_
                        · intro f w' hb hU
                          simp only [putAll, List.foldl_cons, List.foldl_nil]
                          go_frame
                          obtain u6 : f 179 = .string ⟨lf.toArray⟩ := hU.get ⟨6, .data⟩ (by simp) rfl
                          obtain u8 : f 181 = .string ⟨lf.toArray⟩ := hU.get ⟨8, .data⟩ (by simp) rfl
                          obtain u2 : f 175 = .bool false := hU.get ⟨2, .guard⟩ (by simp) rfl
                          try simp only [u6, u8, u2]
                          go_wp2_with fail
                          exact ⟨rfl, _, rfl, Below.refl _ _, rfl⟩
                        refine HSteps.cons ?_ ?_
                        · intro f w' hb hU
                          obtain u2 : f 175 = .bool false := hU.get ⟨2, .data⟩ (by simp) rfl
                          obtain u9 : f 182 = .bool false := hU.get ⟨9, .data⟩ (by simp) rfl
                          simp only [putAll, List.foldl_cons, List.foldl_nil]
                          go_frame
                          try simp only [u2, u9]
                          go_wp2_with fail
                          exact ⟨rfl, _, rfl, Below.refl _ _, rfl⟩
                        refine HSteps.cons ?_ ?_
                        · intro f w' hb hU
                          obtain u10 : f 183 = .bool false := hU.get ⟨10, .data⟩ (by simp) rfl
                          obtain ⟨A', c', u5, v5_0⟩ : ∃ (A' : Option Addr), ∃ (c' : Nat), f 178 = .slice A' K c' ∧ RB w' A' K lf := hU.get ⟨5, .chain⟩ (by simp) rfl
                          simp only [putAll, List.foldl_cons, List.foldl_nil]
                          go_frame
                          try simp only [u10, u5]
                          go_wp2_with fail
                          exact ⟨rfl, _, rfl, Below.refl _ _, rfl⟩
                        refine HSteps.cons ?_ ?_
                        · intro f w' hb hU
                          simp only [putAll, List.foldl_cons, List.foldl_nil]
                          go_frame
                          obtain u11 : f 184 = .bool false := hU.get ⟨11, .guard⟩ (by simp) rfl
                          obtain ⟨x0', x1', x2', x3', x4'⟩ := (kx.keep hb).c5
                          try simp only [u11]
                          go_wp2_with fail
                          exact ⟨rfl, _, rfl, Below.refl _ _, rfl⟩
                        refine HSteps.cons ?_ ?_
                        · intro f w' hb hU
                          simp only [putAll, List.foldl_cons, List.foldl_nil]
                          go_frame
                          obtain u12 : f 185 = dx.v := hU.get ⟨12, .data⟩ (by simp) rfl
                          obtain u11 : f 184 = .bool false := hU.get ⟨11, .chain⟩ (by simp) rfl
                          try simp only [u12, u11]
                          go_wp2_with fail
                          refine (HPe.out w').mono ?_
                          rintro e w3 ⟨rfl, b3⟩
                          go_wp2_with fail
                          exact ⟨rfl, _, rfl, b3, rfl⟩
                        refine HSteps.cons ?_ ?_
                        · intro f w' hb hU
                          simp only [putAll, List.foldl_cons, List.foldl_nil]
                          go_frame
                          obtain u11 : f 184 = .bool false := hU.get ⟨11, .guard⟩ (by simp) rfl
                          obtain ⟨x0', x1', x2', x3', x4'⟩ := (kdk.keep hb).c5
                          try simp only [u11]
                          go_wp2_with fail
                          exact ⟨rfl, _, rfl, Below.refl _ _, rfl⟩
                        refine HSteps.cons ?_ ?_
                        · intro f w' hb hU
                          simp only [putAll, List.foldl_cons, List.foldl_nil]
                          go_frame
                          obtain u14 : f 187 = d.v := hU.get ⟨14, .data⟩ (by simp) rfl
                          obtain u13 : f 186 = .int .i64 (mx : Int) := hU.get ⟨13, .chain⟩ (by simp) rfl
                          obtain u11 : f 184 = .bool false := hU.get ⟨11, .guard⟩ (by simp) rfl
                          try simp only [u14, u13, u11]
                          go_wp2_with fail
                          refine (HPo.out w').mono ?_
                          rintro e w3 ⟨rfl, b3⟩
                          go_wp2_with fail
                          exact ⟨rfl, _, rfl, b3, rfl⟩
                        refine HSteps.cons ?_ ?_
                        · intro f w' hb hU
                          simp only [putAll, List.foldl_cons, List.foldl_nil]
                          go_frame
                          obtain u13 : f 186 = .int .i64 (mx : Int) := hU.get ⟨13, .data⟩ (by simp) rfl
                          obtain u15 : f 188 = .int .i64 (mo : Int) := hU.get ⟨15, .data⟩ (by simp) rfl
                          obtain u11 : f 184 = .bool false := hU.get ⟨11, .guard⟩ (by simp) rfl
                          try simp only [u13, u15, u11]
                          go_wp2_with fail
                          exact ⟨rfl, _, rfl, Below.refl _ _, congrArg Value.bool (decide_eq_false (show ¬ mx < mo by omega))⟩
                        refine HSteps.cons ?_ ?_
                        · intro f w' hb hU
                          obtain u11 : f 184 = .bool false := hU.get ⟨11, .data⟩ (by simp) rfl
                          obtain u16 : f 189 = .bool false := hU.get ⟨16, .data⟩ (by simp) rfl
                          simp only [putAll, List.foldl_cons, List.foldl_nil]
                          go_frame
                          try simp only [u11, u16]
                          go_wp2_with fail
                          exact ⟨rfl, _, rfl, Below.refl _ _, rfl⟩
                        exact HSteps.nil
                      case grow =>
                        intro kq u wa wb hb hu
                        rcases kq with _ | _ | _ | _ | _ | _ | _ | _ | _ | _ | _ | _ | _ | _ | _ | _ | _ | _ | kq
                        · exact hu
                        · exact hu
                        · exact hu
                        · exact hu
                        · exact hu
                        · obtain ⟨A', c', ue, uf0⟩ := hu
                          exact ⟨A', c', ue, uf0.below hb⟩
                        · exact hu
                        · exact hu
                        · exact hu
                        · exact hu
                        · exact hu
                        · exact hu
                        · exact hu
                        · exact hu
                        · exact hu
                        · exact hu
                        · exact hu
                        · exact hu
                        · trivial
                      case tail =>
                        intro f w7 hb7 hU
                        obtain u17 : f 190 = .bool false := hU.get 17 (by decide)
                        simp only [List.drop_succ_cons, List.drop_zero, putAll, List.foldl_cons, List.foldl_nil]
                        go_frame
                        simp only [u17]
                        clear u17
                        clear hU
                        have k89 := kx.keep hb7
                        have k9 := km19.keep hb7
                        have kd9 := kdk.keep hb7
                        have kl9 := kl19.keep hb7
                        have hd9 := kx19.d.keep hb7
                        have ks9 := ks19.keep hb7
                        have C9 := C19.trans (hb7.mono C19.size)
                        have m7 := kd9.lt
                        have m8 := kl9.lt
                        have m13 := k89.lt
                        have m14 := k9.lt
                        clear kx km19 kd19 kl19 kx19 ks19 C19 hb7 HRg HPe HPo kdk t9 t9b
                        go_wp2_with fail
                        refine wp_moves (by kernel_rfl) (by as_aux_lemma => kernel_rfl) _ _ Tryd.underlying38 Tryd.underlying44 rfl rfl dx.cs l2.cs diskN logN (dv_one _) (lg_one _) bX bY G7 G8 _ _ _ _ _ _ k89 k9 kd9 kl9 rfl rfl (by omega) (by omega) (by decide) 251 rfl (by decide) (by decide) rfl rfl rfl rfl ?_
                        intro w11 w12 s7 g7 s8 g8
                        go_frame
                        have kl10 := kl9.grown g7 (by simp; omega)
                        have Kd : Bx w12 G7 dx DN := ⟨s7.grown g8 (by simp; omega), (hd9.kept (Kept.grown g7 kd9 notDk)).kept (Kept.grown g8 kl10 (by unfold dkT; decide))⟩
                        have Kl : Blk w12 G8 44 l2.cs := s8
                        have ks12 := (ks9.grown g7 (by simp; omega)).grown g8 (by simp; omega)
                        have C10 := C9.grown g7 C9.size (fun z hz => by cases hz; omega)
                        have hbel := C10.grown g8 C10.size (fun z hz => by cases hz; omega)
                        clear k89 k9 kd9 kl9 hd9 ks9 C9 C10 s7 g7 s8 g8 kl10
                        go_wp2_with fail
                        go_meet
                        case rel => exact ⟨dx, DN, l2, ⟨s.e, s.g, nn, ns⟩, fe, Kd, Kl, ks12, HS2, hbel⟩
                  · have R := append_full l d (some ⟨gp, 0, none⟩) pl pl w8 hlok (by omega) (by omega)
                    have t7 : ((pl : Int) > rm) := by rw [hrf]; omega
                    clear hlok hinn hWl hnx he2 hgl hleft hs1 hrf hfit hsk
                    dsimp only [DV.v, Lg.v] at R
                    refine R.mono ?_
                    clear R x0 x1 x2 x3 x4 y0 y1 y2 y3 y4 y5 m1 m2
                    rintro e w9 ⟨rfl, b9⟩
                    replace kd := kd.keep b9
                    replace kl := kl.keep b9
                    replace ks := ks.keep b9
                    replace kb := kb.keep b9
                    replace hbel := hbel.trans (b9.mono hbel.size)
                    have m1 := kd.k.lt
                    have m2 := kl.lt
                    have m3 := ks.lt
                    have m4 := kb.lt
                    clear b9
                    simp only [DV.zero, Lg.zero]
                    go_wp2_with (first
                      | ((with_reducible refine is_alloc 38 ?_); refine wp_allocB (w := w9) _ arrDisk ?_; intro w10 k10 b10 s10; go_frame)
                      | ((with_reducible refine is_alloc 44 ?_); refine wp_allocN (w9.heap.size + 1) s10 _ arrLog ?_; intro w11 k11 b11 s11; go_frame)
                      | ((with_reducible refine is_store 38 ?_); refine wp_storeB w9.heap.size _ _ DV.zero.cs (k10.keep (by rw [s10]; exact b11)) diskN rfl (dv_one _) rfl rfl ?_; intro w12 k12 r12; go_frame)
                      | ((with_reducible refine is_store 44 ?_); refine wp_storeB (w9.heap.size + 1) _ _ Lg.zero.cs (k11.grown r12 (by simp)) logN rfl (lg_one _) rfl rfl ?_; intro w13 k13 r13; go_frame; have b11' : Below w9.heap.size w9 w11 := b10.trans ((show Below w10.heap.size w10 w11 by rw [s10]; exact b11).mono b10.size); have ks13 := ((ks.keep b11').grown r12 (by simp; omega)).grown r13 (by simp; omega); obtain ⟨y0, y1, y2, y3⟩ := ks13.c4; have ls13 := ks13.lt))
                    have K13 := ((Kept.below b11').trans (Kept.grown r12 (k10.keep (by rw [s10]; exact b11)) notDk)).trans (Kept.grown r13 (k11.grown r12 (by simp)) (by unfold dkT; decide))
                    have kd13 : Bx w13 G7 d D := ⟨((kd.k.keep b11').grown r12 (by simp; omega)).grown r13 (by simp; omega), kd.d.kept K13⟩
                    have kl13 := ((kl.keep b11').grown r12 (by simp; omega)).grown r13 (by simp; omega)
                    have kb13 := ((kb.keep b11').grown r12 (by simp; omega)).grown r13 (by simp; omega)
                    have C11 := hbel.trans (b11'.mono hbel.size)
                    have C12 := C11.grown r12 C11.size (fun z hz => by cases hz; have := hbel.size; omega)
                    have C13 := C12.grown r13 C12.size (fun z hz => by cases hz; have := hbel.size; omega)
                    refine (HRm.out _).mono ?_
                    rintro e w14 ⟨rfl, b14⟩
                    have Kd := kd13.keep b14
                    have Kl := kl13.keep b14
                    have Ks := ks13.keep b14
                    have C14 := C13.trans (b14.mono C13.size)
                    clear y0 y1 y2 y3 ls13 kd kl ks kb hbel b10 b11 b11' s10 s11 k10 k11 k12 r12 r13 C11 C12 K13 kd13 kl13 ks13 kb13 C13 b14 k13
                    go_wp2_with fail
                    go_roundw
                    case measure => simp [intOf]; omega
                    case rel => exact ⟨k + 1, d, D, l, s, fe, by omega, by go_num, Kd, Kl, Ks, hid HS.out.next, C14⟩
              · have e3 : decide (md ≤ 2) = false := by simpa using happ
                rw [e3]
                clear e3 HP hpl HPL
                by_cases h3 : md = 3
                · have f3 : ((md : Int) == 3) = true := by rw [beq_iff_eq]; omega
                  as_aux_lemma =>
                    clear h3
                    obtain ⟨x0, x1, x2, x3, x4⟩ := kd.k.c5
                    go_wp2_with fail
                    have R := sync_any d wB
                    dsimp only [DV.v] at R
                    refine R.mono ?_
                    clear R
                    rintro e w8 ⟨rfl, b8⟩
                    replace kd := kd.keep b8
                    replace kl := kl.keep b8
                    replace ks := ks.keep b8
                    replace hbel := hbel.trans (b8.mono hbel.size)
                    clear b8 x0 x1 x2 x3 x4 k6 kb
                    go_wp2_with ((with_reducible refine is_store 38 ?_); refine wp_storeB G7 _ _ d.sync.cs kd.k diskN rfl (dv_one _) rfl rfl ?_; intro w9 k9 r9; go_frame)
                    have Kd : Bx w9 G7 d.sync D.sync := kd.put k9 r9 kd.d.sync
                    have Kl := kl.grown r9 (by simp; omega)
                    have Ks := ks.grown r9 (by simp; omega)
                    have C9 := hbel.grown r9 hbel.size (fun z hz => by cases hz; omega)
                    clear kd kl ks hbel k9 r9
                    go_wp2_with fail
                    go_meet
                    case rel => exact ⟨d.sync, D.sync, l, s, fe, Kd, Kl, Ks, hid HS.out.sync, C9⟩
                · have f3 : ((md : Int) == 3) = false := by rw [beq_eq_false_iff_ne]; omega
                  by_cases h4 : md = 4
                  · have f4 : ((md : Int) == 4) = true := by rw [beq_iff_eq]; omega
                    as_aux_lemma =>
                      clear h3 h4
                      have hlok := HS.out.lok (by omega) (by omega)
                      obtain ⟨ne, hne⟩ : ∃ z, s.e + 1 = z := ⟨_, rfl⟩
                      have hb1 := HS.out.e2
                      have hb2 := HS.out.nx
                      have hb3 := HS.out.W
                      have eA : l.anew = ⟨2, q, ne, 1, s.nx, 3⟩ := by
                        rw [HS.out.l, ← hne]
                        show Lg.mk 2 q ((s.e + 1) % 18446744073709551616) 1 s.nx (2 + 1) = _
                        rw [Nat.mod_eq_of_lt (by omega)]
                      have eF : l.from_ = 2 := by rw [HS.out.l]
                      have eN : l.nx = s.nx := by rw [HS.out.l]
                      have R := reset_good l d D wB kd.d (HTb.out.keep hbel) hlok (by rw [HS.out.l]; show 1 ≤ q; omega) (by rw [HS.out.l, HDn.out]; show 2 + q ≤ q + 3; omega) (by omega)
                      rw [eA, eF, eN] at R
                      dsimp only at R
                      have HS2 := HS.out.reset (by omega) ⟨2, q, ne, 1, s.nx, 3⟩ (by rw [hne])
                      rw [hne] at HS2
                      obtain ⟨l2, hl2⟩ : ∃ z, (⟨2, q, ne, 1, s.nx, 3⟩ : Lg) = z := ⟨_, rfl⟩
                      rw [hl2] at R HS2
                      have hSH := seg_hdr D q (hdr ne s.nx) (by omega) (HH8.out 2 (by omega))
                      have hHH : Hid (∀ w', Calls Tryd.prog 10 #[.int .u64 ne, .int .u64 s.nx] w' fun e w'' => ∃ v, e = .returned v ∧ w''.ownsRow w'.heap.size 5 1 v 128 ((hdr ne s.nx).map byV) ∧ Below w'.heap.size w' w'') := hid fun w' => refHeader_any ne s.nx w' (by omega) (by omega)
                      have hHL : Hid ((hdr ne s.nx).length = 128) := hid (hdr_len _ _)
                      rw [HLR.out] at hSH
                      generalize hdr ne s.nx = hb at *
                      obtain ⟨lf, hlf⟩ : ∃ z, (seg (D.write 2 hb).sync.cur 2 q).flatten = z := ⟨_, rfl⟩
                      rw [hlf] at hSH
                      have HDW : Hid ((D.write 2 hb).sync.W.length = 0) := hid rfl
                      have HDn2 : Hid ((D.write 2 hb).sync.n = q + 3) := hid HDn.out
                      generalize (D.write 2 hb).sync = DN at *
                      have HSH := hid hSH
                      have HLF := hid hlf
                      replace HS2 := hid HS2
                      have z1 : IntKind.u64.wrap ((s.e : Int) + 1) = (ne : Int) := by rw [IntKind.wrap_u64]; omega
                      clear eA eF eN hl2 hSH hlf hlok hne hb1 hb2 hb3
                      obtain ⟨x0, x1, x2, x3, x4⟩ := kd.k.c5
                      obtain ⟨y0, y1, y2, y3, y4, y5⟩ := kl.c6
                      try dsimp only at y0 y1 y2 y3 y4 y5
                      go_wp2_with fail
                      dsimp only [DV.v, Lg.v] at R
                      refine R.mono ?_
                      clear R
                      rintro e w9 ⟨dx, rfl, hd9, b9⟩
                      replace kd := kd.keep b9
                      replace kl := kl.keep b9
                      replace ks := ks.keep b9
                      replace kb := kb.keep b9
                      replace hbel := hbel.trans (b9.mono hbel.size)
                      have m1 := kd.k.lt
                      have m2 := kl.lt
                      have m3 := ks.lt
                      have m4 := kb.lt
                      clear b9 x0 x1 x2 x3 x4 y0 y1 y2 y3 y4 y5 k6 a0 a1 a2 a3 l6
                      go_wp2_with (first
                        | ((with_reducible refine is_alloc 38 ?_); refine wp_allocB (w := w9) _ arrDisk ?_; intro w10 k10 b10 s10; go_frame)
                        | ((with_reducible refine is_alloc 44 ?_); refine wp_allocN (w9.heap.size + 1) s10 _ arrLog ?_; intro w11 k11 b11 s11; go_frame)
                        | ((with_reducible refine is_store 38 ?_); refine wp_storeB w9.heap.size _ _ dx.cs (k10.keep (by rw [s10]; exact b11)) diskN rfl (dv_one _) rfl rfl ?_; intro w12 k12 r12; go_frame)
                        | ((with_reducible refine is_store 44 ?_); refine wp_storeB (w9.heap.size + 1) _ _ l2.cs (k11.grown r12 (by simp)) logN rfl (lg_one _) rfl rfl ?_; intro w13 k13 r13; go_frame; have b11' : Below w9.heap.size w9 w11 := b10.trans ((show Below w10.heap.size w10 w11 by rw [s10]; exact b11).mono b10.size); have ks13 := ((ks.keep b11').grown r12 (by simp; omega)).grown r13 (by simp; omega); obtain ⟨y0, y1, y2, y3⟩ := ks13.c4; have ls13 := ks13.lt)
                        | ((with_reducible refine is_store 49 ?_); refine wp_storeB G9 _ _ (⟨ne, 1, s.nx, 1⟩ : Stt).cs ks13 stN rfl (st_one _) rfl rfl ?_; intro w14 k14 r14; go_frame; obtain ⟨v0, v1, v2, v3⟩ := k14.c4; have l14 := k14.lt))
                      have K13 := ((Kept.below b11').trans (Kept.grown r12 (k10.keep (by rw [s10]; exact b11)) notDk)).trans (Kept.grown r13 (k11.grown r12 (by simp)) (by unfold dkT; decide))
                      have kd13 : Bx w13 G7 d D := ⟨((kd.k.keep b11').grown r12 (by simp; omega)).grown r13 (by simp; omega), kd.d.kept K13⟩
                      have kl13 := ((kl.keep b11').grown r12 (by simp; omega)).grown r13 (by simp; omega)
                      have kb13 := ((kb.keep b11').grown r12 (by simp; omega)).grown r13 (by simp; omega)
                      have C11 := hbel.trans (b11'.mono hbel.size)
                      have C12 := C11.grown r12 C11.size (fun z hz => by cases hz; have := hbel.size; omega)
                      have C13 := C12.grown r13 C12.size (fun z hz => by cases hz; have := hbel.size; omega)
                      have hd13 := hd9.kept K13
                      have kx13 := k12.grown r13 (by simp)
                      have kx14 := kx13.grown r14 (by simp; omega)
                      have hd14 := hd13.kept (Kept.grown r14 ks13 (by unfold dkT; decide))
                      have kd14 : Bx w14 G7 d D := ⟨kd13.k.grown r14 (by simp; omega), kd13.d.kept (Kept.grown r14 ks13 (by unfold dkT; decide))⟩
                      have kl14 := kl13.grown r14 (by simp; omega)
                      have kb14 := kb13.grown r14 (by simp; omega)
                      have km14 := k13.grown r14 (by simp; omega)
                      have C14 := C13.grown r14 C13.size (fun z hz => by cases hz; omega)
                      clear y0 y1 y2 y3 ls13 ks13 kd kl ks kb hbel b10 b11 b11' s10 s11 k10 k11 k12 k13 r12 r13 r14 hd9 hd13 kx13 kd13 kl13 kb13 C11 C12 C13 K13 v0 v1 v2 v3
                      have n7 : ¬ G7 = w9.heap.size ∧ ¬ G7 = w9.heap.size + 1 ∧ ¬ G8 = w9.heap.size ∧ ¬ G8 = w9.heap.size + 1 ∧ ¬ G9 = w9.heap.size ∧ ¬ G9 = w9.heap.size + 1 ∧ ¬ gb = w9.heap.size ∧ ¬ gb = w9.heap.size + 1 := ⟨by omega, by omega, by omega, by omega, by omega, by omega, by omega, by omega⟩
                      generalize w9.heap.size = bX at *
                      obtain ⟨bY, hbY⟩ : ∃ z, bX + 1 = z := ⟨_, rfl⟩
                      rw [hbY] at km14 n7 ⊢
                      have hneXY : ¬ bX = bY := by omega
                      clear hbY m1 m2 m3 m4
                      refine (hHH.out _).mono ?_
                      rintro e w15 ⟨v, rfl, ownv, b15⟩
                      obtain ⟨A8, c8, rfl, hr8, _, _⟩ := own_form ownv
                      have kb15 := kb14.keep b15
                      have l15 := kb15.lt
                      go_wp2_with ((with_reducible refine is_copy ?_); refine wp_copyB gb 0 K cb 5 5 _ kb15 Tryd.underlying25 bytesN A8 128 c8 _ hr8 (byV_one _) rfl rfl (by rw [hcl]; omega) ?_; intro w16 kb16 r16; go_frame)
                      have emin : min 128 K = 128 := by omega
                      rw [emin] at kb16
                      have hrf : RB w16 (some ⟨gb, 0, none⟩) K lf := cp_front (l := lr) kb16 HTK.out hHL.out (by omega) HLL.out (by rw [HSH.out, List.take_zero, List.nil_append, Nat.zero_add])
                      have kd16 : Bx w16 G7 d D := ⟨(kd14.k.keep b15).grown r16 (by simp; omega), (kd14.d.keep b15).kept (Kept.grown r16 kb15 (by unfold dkT; decide))⟩
                      have kx16 : Bx w16 bX dx DN := ⟨(kx14.keep b15).grown r16 (by simp; omega), (hd14.keep b15).kept (Kept.grown r16 kb15 (by unfold dkT; decide))⟩
                      have kl16 := (kl14.keep b15).grown r16 (by simp; omega)
                      have km16 := (km14.keep b15).grown r16 (by simp; omega)
                      have ks16 := (k14.keep b15).grown r16 (by simp; omega)
                      have C15 := C14.trans (b15.mono C14.size)
                      have C16 := C15.grown r16 C15.size (fun z hz => by cases hz; omega)
                      clear kb15 kb16 r16 b15 kd14 kx14 hd14 kl14 km14 k14 kb14 C14 C15 hr8 ownv emin l15
                      have HRg : Hid (∀ w', Below w16.heap.size w16 w' → Calls Tryd.prog 23 #[dx.v, .int .i64 2, .int .i64 q] w' fun e w'' => ∃ A c, e = .returned (.slice A K c) ∧ RB w'' A K lf ∧ Below w'.heap.size w' w'') := hid fun w' hb => by
                        have R := region_any dx DN 2 q w' (kx16.d.keep hb) (by rw [HDn2.out]; omega)
                        rw [HLF.out, HK.out] at R
                        exact R.mono fun e w'' ⟨A, c, h1, h2, h3⟩ => ⟨A, c, h1, RL.of_own h2, h3⟩
                      have HPe : Hid (∀ w', Calls Tryd.prog 30 #[dx.v] w' fun e w'' => e = .returned (.int .i64 0) ∧ Below w'.heap.size w' w'') := hid fun w' => by
                        have R := pending_any dx w'
                        rw [kx16.d.m, HDW.out] at R
                        exact R
                      have lx := kx16.k.lt
                      have kx := kx16.k
                      have HRF := hid hrf
                      clear hrf
                      go_wp2_with fail
                      refine wp_region_head 251 16 [219, 220, 221, 222, 223, 224, 225, 226, 227, 228, 229, 230, 231, 232, 233, 234] [] ((fun kq => ([fun u w' => u = .int .i64 0, fun u w' => u = .bool false, fun u w' => u = .bool false, fun u w' => u = dx.v, fun u w' => u = .int .i64 (q : Int), fun u w' => ∃ (A' : Option Addr), ∃ (c' : Nat), u = .slice A' K c' ∧ RB w' A' K lf, fun u w' => u = .string ⟨lf.toArray⟩, fun u w' => u = .slice (some ⟨gb, 0, none⟩) K cb, fun u w' => u = .string ⟨lf.toArray⟩, fun u w' => u = .bool false, fun u w' => u = .bool false, fun u w' => u = .bool false, fun u w' => u = dx.v, fun u w' => u = .int .i64 0, fun u w' => u = .bool false, fun u w' => u = .bool false] : List (Value → World → Prop)).getD kq (fun _ _ => True))) (by kernel_rfl) rfl (by kernel_rfl) (.inl rfl) ?grow ?step ?tail
                      case step =>
                        simp only [List.take_succ_cons, List.take_zero]
                        refine HSteps.cons ?_ ?_
                        · intro f w' hb hU
                          simp only [putAll, List.foldl_cons, List.foldl_nil]
                          go_frame
                          go_wp2_with fail
                          exact ⟨rfl, _, rfl, Below.refl _ _, rfl⟩
                        refine HSteps.cons ?_ ?_
                        · intro f w' hb hU
                          obtain u0 : f 219 = .int .i64 0 := hU.get ⟨0, .data⟩ (by simp) rfl
                          simp only [putAll, List.foldl_cons, List.foldl_nil]
                          go_frame
                          try simp only [u0]
                          go_wp2_with fail
                          exact ⟨rfl, _, rfl, Below.refl _ _, rfl⟩
                        refine HSteps.cons ?_ ?_
                        · intro f w' hb hU
                          obtain u1 : f 220 = .bool false := hU.get ⟨1, .data⟩ (by simp) rfl
                          simp only [putAll, List.foldl_cons, List.foldl_nil]
                          go_frame
                          try simp only [u1]
                          go_wp2_with fail
                          exact ⟨rfl, _, rfl, Below.refl _ _, rfl⟩
                        refine HSteps.cons ?_ ?_
                        · intro f w' hb hU
                          simp only [putAll, List.foldl_cons, List.foldl_nil]
                          go_frame
                          obtain u2 : f 221 = .bool false := hU.get ⟨2, .guard⟩ (by simp) rfl
                          obtain ⟨x0', x1', x2', x3', x4'⟩ := (kx.keep hb).c5
                          try simp only [u2]
                          go_wp2_with fail
                          exact ⟨rfl, _, rfl, Below.refl _ _, rfl⟩
                        refine HSteps.cons ?_ ?_
                        · intro f w' hb hU
                          simp only [putAll, List.foldl_cons, List.foldl_nil]
                          go_frame
                          obtain u2 : f 221 = .bool false := hU.get ⟨2, .guard⟩ (by simp) rfl
                          try simp only [u2]
                          go_wp2_with fail
                          exact ⟨rfl, _, rfl, Below.refl _ _, rfl⟩
                        refine HSteps.cons ?_ ?_
                        · intro f w' hb hU
                          simp only [putAll, List.foldl_cons, List.foldl_nil]
                          go_frame
                          obtain u3 : f 222 = dx.v := hU.get ⟨3, .data⟩ (by simp) rfl
                          obtain u4 : f 223 = .int .i64 (q : Int) := hU.get ⟨4, .data⟩ (by simp) rfl
                          obtain u2 : f 221 = .bool false := hU.get ⟨2, .chain⟩ (by simp) rfl
                          try simp only [u3, u4, u2]
                          go_wp2_with fail
                          refine (HRg.out w' hb).mono ?_
                          rintro e w3 ⟨A', c', rfl, hrr, b3⟩
                          go_wp2_with fail
                          exact ⟨rfl, _, rfl, b3, A', c', rfl, hrr⟩
                        refine HSteps.cons ?_ ?_
                        · intro f w' hb hU
                          simp only [putAll, List.foldl_cons, List.foldl_nil]
                          go_frame
                          obtain ⟨A', c', u5, v5_0⟩ : ∃ (A' : Option Addr), ∃ (c' : Nat), f 224 = .slice A' K c' ∧ RB w' A' K lf := hU.get ⟨5, .data⟩ (by simp) rfl
                          obtain u2 : f 221 = .bool false := hU.get ⟨2, .guard⟩ (by simp) rfl
                          have cv := run_str (v5_0) 25 9 5 c' Tryd.underlying25 Tryd.underlying5 Tryd.underlying9
                          try simp only [u5, u2]
                          go_wp2_with fail
                          exact ⟨rfl, _, rfl, Below.refl _ _, rfl⟩
                        refine HSteps.cons ?_ ?_
                        · intro f w' hb hU
                          simp only [putAll, List.foldl_cons, List.foldl_nil]
                          go_frame
                          obtain u2 : f 221 = .bool false := hU.get ⟨2, .guard⟩ (by simp) rfl
                          try simp only [u2]
                          go_wp2_with fail
                          exact ⟨rfl, _, rfl, Below.refl _ _, rfl⟩
                        refine HSteps.cons ?_ ?_
                        · intro f w' hb hU
                          simp only [putAll, List.foldl_cons, List.foldl_nil]
                          go_frame
                          obtain u7 : f 226 = .slice (some ⟨gb, 0, none⟩) K cb := hU.get ⟨7, .data⟩ (by simp) rfl
                          obtain u2 : f 221 = .bool false := hU.get ⟨2, .guard⟩ (by simp) rfl
                          have cv := run_str (RB.below HRF.out hb) 25 9 5 cb Tryd.underlying25 Tryd.underlying5 Tryd.underlying9
                          try simp only [u7, u2]
                          go_wp2_with fail
                          exact ⟨rfl, _, rfl, Below.refl _ _, rfl⟩
                        refine HSteps.cons ?_ ?_
                        · intro f w' hb hU
                          simp only [putAll, List.foldl_cons, List.foldl_nil]
                          go_frame
                          obtain u6 : f 225 = .string ⟨lf.toArray⟩ := hU.get ⟨6, .data⟩ (by simp) rfl
                          obtain u8 : f 227 = .string ⟨lf.toArray⟩ := hU.get ⟨8, .data⟩ (by simp) rfl
                          obtain u2 : f 221 = .bool false := hU.get ⟨2, .guard⟩ (by simp) rfl
                          try simp only [u6, u8, u2]
                          go_wp2_with fail
                          exact ⟨rfl, _, rfl, Below.refl _ _, rfl⟩
                        refine HSteps.cons ?_ ?_
                        · intro f w' hb hU
                          obtain u2 : f 221 = .bool false := hU.get ⟨2, .data⟩ (by simp) rfl
                          obtain u9 : f 228 = .bool false := hU.get ⟨9, .data⟩ (by simp) rfl
                          simp only [putAll, List.foldl_cons, List.foldl_nil]
                          go_frame
                          try simp only [u2, u9]
                          go_wp2_with fail
                          exact ⟨rfl, _, rfl, Below.refl _ _, rfl⟩
                        refine HSteps.cons ?_ ?_
                        · intro f w' hb hU
                          obtain u10 : f 229 = .bool false := hU.get ⟨10, .data⟩ (by simp) rfl
                          obtain ⟨A', c', u5, v5_0⟩ : ∃ (A' : Option Addr), ∃ (c' : Nat), f 224 = .slice A' K c' ∧ RB w' A' K lf := hU.get ⟨5, .chain⟩ (by simp) rfl
                          simp only [putAll, List.foldl_cons, List.foldl_nil]
                          go_frame
                          try simp only [u10, u5]
                          go_wp2_with fail
                          exact ⟨rfl, _, rfl, Below.refl _ _, rfl⟩
                        refine HSteps.cons ?_ ?_
                        · intro f w' hb hU
                          simp only [putAll, List.foldl_cons, List.foldl_nil]
                          go_frame
                          obtain u11 : f 230 = .bool false := hU.get ⟨11, .guard⟩ (by simp) rfl
                          obtain ⟨x0', x1', x2', x3', x4'⟩ := (kx.keep hb).c5
                          try simp only [u11]
                          go_wp2_with fail
                          exact ⟨rfl, _, rfl, Below.refl _ _, rfl⟩
                        refine HSteps.cons ?_ ?_
                        · intro f w' hb hU
                          simp only [putAll, List.foldl_cons, List.foldl_nil]
                          go_frame
                          obtain u12 : f 231 = dx.v := hU.get ⟨12, .data⟩ (by simp) rfl
                          obtain u11 : f 230 = .bool false := hU.get ⟨11, .chain⟩ (by simp) rfl
                          try simp only [u12, u11]
                          go_wp2_with fail
                          refine (HPe.out w').mono ?_
                          rintro e w3 ⟨rfl, b3⟩
                          go_wp2_with fail
                          exact ⟨rfl, _, rfl, b3, rfl⟩
                        refine HSteps.cons ?_ ?_
                        · intro f w' hb hU
                          simp only [putAll, List.foldl_cons, List.foldl_nil]
                          go_frame
                          obtain u13 : f 232 = .int .i64 0 := hU.get ⟨13, .data⟩ (by simp) rfl
                          obtain u11 : f 230 = .bool false := hU.get ⟨11, .guard⟩ (by simp) rfl
                          try simp only [u13, u11]
                          go_wp2_with fail
                          exact ⟨rfl, _, rfl, Below.refl _ _, rfl⟩
                        refine HSteps.cons ?_ ?_
                        · intro f w' hb hU
                          obtain u11 : f 230 = .bool false := hU.get ⟨11, .data⟩ (by simp) rfl
                          obtain u14 : f 233 = .bool false := hU.get ⟨14, .data⟩ (by simp) rfl
                          simp only [putAll, List.foldl_cons, List.foldl_nil]
                          go_frame
                          try simp only [u11, u14]
                          go_wp2_with fail
                          exact ⟨rfl, _, rfl, Below.refl _ _, rfl⟩
                        exact HSteps.nil
                      case grow =>
                        intro kq u wa wb hb hu
                        rcases kq with _ | _ | _ | _ | _ | _ | _ | _ | _ | _ | _ | _ | _ | _ | _ | _ | kq
                        · exact hu
                        · exact hu
                        · exact hu
                        · exact hu
                        · exact hu
                        · obtain ⟨A', c', ue, uf0⟩ := hu
                          exact ⟨A', c', ue, uf0.below hb⟩
                        · exact hu
                        · exact hu
                        · exact hu
                        · exact hu
                        · exact hu
                        · exact hu
                        · exact hu
                        · exact hu
                        · exact hu
                        · exact hu
                        · trivial
                      case tail =>
                        intro f w7 hb7 hU
                        obtain u15 : f 234 = .bool false := hU.get 15 (by decide)
                        simp only [List.drop_succ_cons, List.drop_zero, putAll, List.foldl_cons, List.foldl_nil]
                        go_frame
                        simp only [u15]
                        clear u15
                        clear hU
                        have k89 := kx.keep hb7
                        have k9 := km16.keep hb7
                        have kd9 := kd16.k.keep hb7
                        have kl9 := kl16.keep hb7
                        have hd9 := kx16.d.keep hb7
                        have ks9 := ks16.keep hb7
                        have C9 := C16.trans (hb7.mono C16.size)
                        have m7 := kd9.lt
                        have m8 := kl9.lt
                        have m13 := k89.lt
                        have m14 := k9.lt
                        clear kx km16 kd16 kl16 kx16 ks16 C16 hb7 HRg HPe lx
                        go_wp2_with fail
                        refine wp_moves (by kernel_rfl) (by as_aux_lemma => kernel_rfl) _ _ Tryd.underlying38 Tryd.underlying44 rfl rfl dx.cs l2.cs diskN logN (dv_one _) (lg_one _) bX bY G7 G8 _ _ _ _ _ _ k89 k9 kd9 kl9 rfl rfl (by omega) (by omega) (by decide) 251 rfl (by decide) (by decide) rfl rfl rfl rfl ?_
                        intro w11 w12 s7 g7 s8 g8
                        go_frame
                        have kl10 := kl9.grown g7 (by simp; omega)
                        have Kd : Bx w12 G7 dx DN := ⟨s7.grown g8 (by simp; omega), (hd9.kept (Kept.grown g7 kd9 notDk)).kept (Kept.grown g8 kl10 (by unfold dkT; decide))⟩
                        have Kl : Blk w12 G8 44 l2.cs := s8
                        have ks12 := (ks9.grown g7 (by simp; omega)).grown g8 (by simp; omega)
                        have C10 := C9.grown g7 C9.size (fun z hz => by cases hz; omega)
                        have hbel := C10.grown g8 C10.size (fun z hz => by cases hz; omega)
                        clear k89 k9 kd9 kl9 hd9 ks9 C9 C10 s7 g7 s8 g8 kl10
                        go_wp2_with fail
                        go_meet
                        case rel => exact ⟨dx, DN, l2, ⟨ne, 1, s.nx, 1⟩, s.nx, Kd, Kl, ks12, HS2, hbel⟩
                  · have f4 : ((md : Int) == 4) = false := by rw [beq_eq_false_iff_ne]; omega
                    as_aux_lemma =>
                      have h56 : md = 5 ∨ md = 6 := by omega
                      obtain ⟨b5, e5⟩ : ∃ z, ((md : Int) == 5) = z := ⟨_, rfl⟩
                      obtain ⟨x0, x1, x2, x3, x4⟩ := kd.k.c5
                      clear h3 h4
                      go_upto_if 90 with fail
                      go_cut [] (fun wx => ∃ (d1 : DV) (D1 : Dk), Bx wx G7 d1 D1 ∧ Blk wx G8 44 l.cs ∧ Blk wx G9 49 s.cs ∧ Hid (Pl q k D1 l s fe) ∧ Below w.heap.size w wx)
                      case first =>
                        cases b5 with
                        | true =>
                          go_wp2_with fail
                          have R := crash_any d D x.ch wB kd.d (by have := HS.out.W; omega) hch
                          dsimp only [DV.v] at R
                          refine R.mono ?_
                          clear R
                          rintro e w8 ⟨d1, rfl, hd5, b8⟩
                          replace kd := kd.keep b8
                          replace kl := kl.keep b8
                          replace ks := ks.keep b8
                          replace hbel := hbel.trans (b8.mono hbel.size)
                          clear b8 x0 x1 x2 x3 x4 a0 a1 a2 a3 k6 kb
                          go_wp2_with ((with_reducible refine is_store 38 ?_); refine wp_storeB G7 _ _ d1.cs kd.k diskN rfl (dv_one _) rfl rfl ?_; intro w9 k9 r9; go_frame)
                          have Kd : Bx w9 G7 d1 (D.crash x.ch) := kd.put k9 r9 hd5
                          have Kl := kl.grown r9 (by simp; omega)
                          have Ks := ks.grown r9 (by simp; omega)
                          have C9 := hbel.grown r9 hbel.size (fun z hz => by cases hz; omega)
                          clear kd kl ks hbel k9 r9 hd5
                          go_wp2_with fail
                          go_meet
                          case rel => exact ⟨d1, D.crash x.ch, Kd, Kl, Ks, hid (HS.out.crash x.ch), C9⟩
                        | false =>
                          go_wp2_with fail
                          go_meet
                          case rel => exact ⟨d, D, kd, kl, ks, HS, hbel⟩
                      case rest =>
                        obtain ⟨d1, D1, kd1, kl1, ks1, HS1, hbel1⟩ := hcut
                        clear kd kl ks k6 kb hbel HS HTK HLL HLR HH8 x0 x1 x2 x3 x4 a0 a1 a2 a3 e5 h56 hcl hgg lb l6 hgb
                        obtain ⟨l2, s2, ps, ho, hr, hf, hps, hS2⟩ := HS1.out.open_ (by omega) (by omega) (by omega)
                        have HS2 := hid hS2
                        have HDn1 := hid HS1.out.n
                        obtain ⟨x0, x1, x2, x3, x4⟩ := kd1.k.c5
                        have m1 := kd1.k.lt
                        have m2 := kl1.lt
                        have m3 := ks1.lt
                        go_wp2_with fail
                        have R := wopen_any d1 D1 2 q wc kd1.d (HTb.out.keep hbel1) (by omega) (by rw [HDn1.out]; omega)
                        rw [ho, hf] at R
                        unfold wopenE at R
                        dsimp only at R
                        rw [show ((2 : Nat) : Int) = 2 from rfl] at R
                        simp only [DV.v] at R
                        have HR2 := hid hr
                        have HF2 := hid hf
                        clear ho hr hf hS2
                        refine R.mono ?_
                        clear R
                        rintro e w9 ⟨sA, rfl, hrA, b9⟩
                        have hs9 := b9.size
                        replace kd1 := kd1.keep b9
                        replace kl1 := kl1.keep b9
                        replace ks1 := ks1.keep b9
                        replace hbel1 := hbel1.trans (b9.mono hbel1.size)
                        have lps : (recsAt fe ps).length ≤ 1000 := by rw [recsAt_len]; omega
                        generalize hRR : recsAt fe ps = RR at hrA lps
                        have HRR := hid hRR
                        clear b9 x0 x1 x2 x3 x4 hRR
                        simp only [Lg.v, Sl.v]
                        go_wp2_with (first
                          | ((with_reducible refine is_alloc 44 ?_); refine wp_allocB (w := w9) _ arrLog ?_; intro w10 k10 b10 s10; go_frame)
                          | ((with_reducible refine is_store 44 ?_); refine wp_storeB w9.heap.size _ _ l2.cs k10 logN rfl (lg_one _) rfl rfl ?_; intro w11 k11 r11; go_frame; obtain ⟨x0, x1, x2, x3, x4⟩ := ((kd1.k.keep b10).grown r11 (by simp; omega)).c5; have lx := ((kd1.k.keep b10).grown r11 (by simp; omega)).lt))
                        have kd11 : Bx w11 G7 d1 D1 := ⟨(kd1.k.keep b10).grown r11 (by simp; omega), (kd1.d.keep b10).kept (Kept.grown r11 k10 (by unfold dkT; decide))⟩
                        have kl11 := (kl1.keep b10).grown r11 (by simp; omega)
                        have ks11 := (ks1.keep b10).grown r11 (by simp; omega)
                        have hrA11 := (hrA.lt.keep b10).grown r11 (fun g hg hN => by cases hg; have := hN.2; omega)
                        have C11 := (hbel1.trans (b10.mono hbel1.size)).grown r11 (hbel1.trans (b10.mono hbel1.size)).size (fun z hz => by cases hz; exact hbel1.size)
                        have m7 : ¬ G7 = w9.heap.size ∧ ¬ G8 = w9.heap.size ∧ ¬ G9 = w9.heap.size := ⟨by omega, by omega, by omega⟩
                        clear b10 s10 k10 r11 kd1 kl1 ks1 hbel1 hrA m1 m2 m3 hs9
                        generalize w9.heap.size = bL at *
                        have hs : D1.cur 2 :: seg D1.cur 3 (q - 1) = seg D1.cur 2 q := by
                          obtain ⟨q', hq'⟩ : ∃ q', q = q' + 1 := ⟨q - 1, by omega⟩
                          rw [hq', seg_succ]
                          rfl
                        have h8 : ∀ j, j < 2 + q → (D1.cur j).length = 128 := fun j hj => kd11.d.len (i := j) (by rw [HDn1.out]; omega)
                        have R := region_any d1 D1 2 q w11 kd11.d (by rw [HDn1.out]; omega)
                        rw [HK.out] at R
                        simp only [DV.v] at R
                        refine R.mono ?_
                        clear R x0 x1 x2 x3 x4 lx
                        rintro e w12 ⟨A5, c5, rfl, own5, b12⟩
                        obtain ⟨A6, c6, e6, hr6, hc6, hm6⟩ := own_form own5
                        cases e6
                        have hKq := HK.out
                        have R := refOpen_any A5 c5 (D1.cur 2) (seg D1.cur 3 (q - 1)) w12 (by rw [hs, seg_len, hKq]; exact hr6) (fun s h => by rw [hs] at h; obtain ⟨j, _, h2, rfl⟩ := seg_mem h; exact h8 j (by omega)) (by rw [hs, seg_len]; omega) (by rw [hs, seg_len, hKq]; omega) hm6
                        rw [hs, seg_len, hKq, HR2.out, HF2.out] at R
                        unfold ropenE at R
                        dsimp only at R
                        rw [HRR.out] at R
                        have kd12 := kd11.keep b12
                        have kl12 := kl11.keep b12
                        have ks12 := ks11.keep b12
                        have k12 := k11.keep b12
                        have hrA12 := hrA11.keep b12
                        have C12 := C11.trans (b12.mono C11.size)
                        clear hs h8 own5 hr6 hc6 hm6 hKq b12 kd11 kl11 ks11 k11 hrA11 C11
                        go_wp2_with fail
                        refine R.mono ?_
                        clear R
                        rintro e w13 ⟨sB, rfl, hrB, b13⟩
                        have hs13 := b13.size
                        have kd13 := kd12.keep b13
                        have kl13 := kl12.keep b13
                        have ks13 := ks12.keep b13
                        have k13 := k12.keep b13
                        have hrA13 := hrA12.keep b13
                        have C13 := C12.trans (b13.mono C12.size)
                        have m1 := kd13.k.lt
                        have m2 := kl13.lt
                        have m3 := ks13.lt
                        have m4 := k13.lt
                        clear b13 kd12 kl12 ks12 k12 hrA12 C12
                        simp only [Stt.v, Sl.v]
                        go_wp2_with (first
                          | ((with_reducible refine is_alloc 49 ?_); refine wp_allocB (w := w13) _ arrSt ?_; intro w14 k14 b14 s14; go_frame)
                          | ((with_reducible refine is_store 49 ?_); refine wp_storeB w13.heap.size _ _ s2.cs k14 stN rfl (st_one _) rfl rfl ?_; intro w15 k15 r15; go_frame))
                        have kd15 : Bx w15 G7 d1 D1 := ⟨(kd13.k.keep b14).grown r15 (by simp; omega), (kd13.d.keep b14).kept (Kept.grown r15 k14 (by unfold dkT; decide))⟩
                        have kl15 := (kl13.keep b14).grown r15 (by simp; omega)
                        have ks15 := (ks13.keep b14).grown r15 (by simp; omega)
                        have kn15 := (k13.keep b14).grown r15 (by simp; omega)
                        have hrA15 := (hrA13.lt.keep b14).grown r15 (fun g hg hN => by cases hg; have := hN.2; omega)
                        have hrB15 := (hrB.lt.keep b14).grown r15 (fun g hg hN => by cases hg; have := hN.2; omega)
                        have C15 := (C13.trans (b14.mono C13.size)).grown r15 (C13.trans (b14.mono C13.size)).size (fun z hz => by cases hz; exact C13.size)
                        have m8 : ¬ G7 = w13.heap.size ∧ ¬ G8 = w13.heap.size ∧ ¬ G9 = w13.heap.size ∧ ¬ bL = w13.heap.size := ⟨by omega, by omega, by omega, by omega⟩
                        clear b14 s14 k14 r15 kd13 kl13 ks13 k13 hrA13 C13 hrB hs13 m1 m2 m3 m4
                        generalize w13.heap.size = bS at *
                        have hne2 := hrA15.e
                        have HRc : Hid (∀ w', Below w15.heap.size w15 w' → Calls Tryd.prog 19 #[.slice sA.A sA.n sA.c] w' fun e w'' => ∃ sl : Sl, e = .returned (.slice sl.A sl.n sl.c) ∧ RecR (fun _ => True) w'' sl RR ∧ Below w'.heap.size w' w'') := hid fun w' hb => records_any _ sA RR w' (hrA15.keep hb) (by omega)
                        have HSm : Hid (∀ w' (sC : Sl), RecR (fun _ => True) w' sC RR → Below w15.heap.size w15 w' → Calls Tryd.prog 18 #[.slice sC.A sC.n sC.c, .slice sB.A sB.n sB.c] w' fun e w'' => e = .returned (.bool true) ∧ Below w'.heap.size w' w'') := hid fun w' sC h hb => same_yes _ _ sC sB RR w' h (hrB15.keep hb)
                        clear hrA15 hrB15 hne2 lps HRR HR2 HF2
                        refine (HRc.out _ (Below.refl _ _)).mono ?_
                        rintro e w16 ⟨sC, rfl, hrC, b16⟩
                        go_wp2_with fail
                        refine (HSm.out w16 sC hrC b16).mono ?_
                        rintro e w7 ⟨rfl, b17⟩
                        have hb7 := b16.trans (b17.mono b16.size)
                        clear b16 b17 hrC
                        have kd9 := kd15.keep hb7
                        have kl9 := kl15.keep hb7
                        have ks9 := ks15.keep hb7
                        have k89 := kn15.keep hb7
                        have k9 := k15.keep hb7
                        have C9 := C15.trans (hb7.mono C15.size)
                        have n8 := kl9.lt
                        have n9 := ks9.lt
                        have nL := k89.lt
                        have nS := k9.lt
                        clear kd15 kl15 ks15 kn15 k15 C15 hb7 HRc HSm
                        go_wp2_with fail
                        refine wp_moves (by kernel_rfl) (by as_aux_lemma => kernel_rfl) _ _ Tryd.underlying44 Tryd.underlying49 rfl rfl l2.cs s2.cs logN stN (lg_one _) (st_one _) bL bS G8 G9 _ _ _ _ _ _ k89 k9 kl9 ks9 rfl rfl (by omega) (by omega) (by decide) 251 rfl (by decide) (by decide) rfl rfl rfl rfl ?_
                        intro w11 w12 s7 g7 s8 g8
                        go_frame
                        have ks10 := ks9.grown g7 (by simp; omega)
                        have Kd : Bx w12 G7 d1 D1 := ⟨(kd9.k.grown g7 (by simp; omega)).grown g8 (by simp; omega), (kd9.d.kept (Kept.grown g7 kl9 (by unfold dkT; decide))).kept (Kept.grown g8 ks10 (by unfold dkT; decide))⟩
                        have Kl : Blk w12 G8 44 l2.cs := s7.grown g8 (by simp; omega)
                        have Ks : Blk w12 G9 49 s2.cs := s8
                        have C10 := C9.grown g7 C9.size (fun z hz => by cases hz; omega)
                        have C12 := C10.grown g8 C10.size (fun z hz => by cases hz; omega)
                        clear k89 k9 kd9 kl9 ks9 C9 C10 s7 g7 s8 g8 ks10
                        go_wp2_with fail
                        go_meet
                        case rel => exact ⟨d1, D1, l2, s2, fe, Kd, Kl, Ks, HS2, C12⟩
          case rest => as_aux_lemma =>
            obtain ⟨d2, D2, l2, s2, f2, kd2, kl2, ks2, HS2, hb2⟩ := hcut
            clear kd kl ks k6 kb hbel HS HP HPL HTK HLL HLR HH8 a0 a1 a2 a3
            have hlok2 := HS2.out.lok (by omega) (by omega)
            have HIs : Hid (∀ w', Calls Tryd.prog 20 #[l2.v, s2.v, .int .i64 q] w' fun e w'' => e = .returned (.bool true) ∧ Below w'.heap.size w' w'') :=
              hid fun w' => is_any l2 s2 q w' hlok2 (by rw [HS2.out.l]) HS2.out.sk (by omega) (by rw [HS2.out.l]; unfold Lg.left; dsimp only; omega)
            obtain ⟨zz, hzz⟩ : ∃ z, zeroB 256 = z := ⟨_, rfl⟩
            have HZ := hid hzz
            have HRz : Hid (∀ w', Below wc.heap.size wc w' → Calls Tryd.prog 23 #[d2.v, .int .i64 0, .int .i64 2] w' fun e w'' => ∃ A c, e = .returned (.slice A 256 c) ∧ RB w'' A 256 zz ∧ Below w'.heap.size w' w'') := hid fun w' hb => by
              have R := region_any d2 D2 0 2 w' (kd2.d.keep hb) (by rw [HS2.out.n]; omega)
              rw [HS2.out.reg0, hzz] at R
              exact R.mono fun e w'' ⟨A, c, h1, h2, h3⟩ => ⟨A, c, h1, RL.of_own h2, h3⟩
            clear hzz hlok2
            go_wp2_with fail
            refine wp_region_head 251 13 [237, 238, 239, 240, 241, 242, 243, 244, 245, 246, 247, 248, 249] [] ((fun kq => ([fun u w' => u = l2.v, fun u w' => u = s2.v, fun u w' => u = .int .i64 (q : Int), fun u w' => u = .bool true, fun u w' => u = .bool false, fun u w' => u = .bool false, fun u w' => u = d2.v, fun u w' => ∃ (A' : Option Addr), ∃ (c' : Nat), u = .slice A' 256 c' ∧ RB w' A' 256 zz, fun u w' => u = .string ⟨zz.toArray⟩, fun u w' => ∃ (g' : Nat), u = .slice (some ⟨g', 0, none⟩) 256 256 ∧ RB w' (some ⟨g', 0, none⟩) 256 zz, fun u w' => u = .string ⟨zz.toArray⟩, fun u w' => u = .bool false, fun u w' => u = .bool false] : List (Value → World → Prop)).getD kq (fun _ _ => True))) (by kernel_rfl) rfl (by kernel_rfl) (.inl rfl) ?grow ?step ?tail
            case step =>
              simp only [List.take_succ_cons, List.take_zero]
              refine HSteps.cons ?_ ?_
              · intro f w' hb hU
                obtain ⟨x0', x1', x2', x3', x4', x5'⟩ := (kl2.keep hb).c6
                simp only [putAll, List.foldl_cons, List.foldl_nil]
                go_frame
                go_wp2_with fail
                exact ⟨rfl, _, rfl, Below.refl _ _, rfl⟩
              refine HSteps.cons ?_ ?_
              · intro f w' hb hU
                obtain ⟨x0', x1', x2', x3'⟩ := (ks2.keep hb).c4
                simp only [putAll, List.foldl_cons, List.foldl_nil]
                go_frame
                go_wp2_with fail
                exact ⟨rfl, _, rfl, Below.refl _ _, rfl⟩
              refine HSteps.cons ?_ ?_
              · intro f w' hb hU
                simp only [putAll, List.foldl_cons, List.foldl_nil]
                go_frame
                go_wp2_with fail
                exact ⟨rfl, _, rfl, Below.refl _ _, rfl⟩
              refine HSteps.cons ?_ ?_
              · intro f w' hb hU
                obtain u0 : f 237 = l2.v := hU.get ⟨0, .data⟩ (by simp) rfl
                obtain u1 : f 238 = s2.v := hU.get ⟨1, .data⟩ (by simp) rfl
                obtain u2 : f 239 = .int .i64 (q : Int) := hU.get ⟨2, .data⟩ (by simp) rfl
                simp only [putAll, List.foldl_cons, List.foldl_nil]
                go_frame
                try simp only [u0, u1, u2]
                go_wp2_with fail
                refine (HIs.out w').mono ?_
                rintro e w3 ⟨rfl, b3⟩
                go_wp2_with fail
                exact ⟨rfl, _, rfl, b3, rfl⟩
              refine HSteps.cons ?_ ?_
              · intro f w' hb hU
                obtain u3 : f 240 = .bool true := hU.get ⟨3, .data⟩ (by simp) rfl
                simp only [putAll, List.foldl_cons, List.foldl_nil]
                go_frame
                try simp only [u3]
                go_wp2_with fail
                exact ⟨rfl, _, rfl, Below.refl _ _, rfl⟩
              refine HSteps.cons ?_ ?_
              · intro f w' hb hU
                obtain u4 : f 241 = .bool false := hU.get ⟨4, .data⟩ (by simp) rfl
                obtain u3 : f 240 = .bool true := hU.get ⟨3, .chain⟩ (by simp) rfl
                simp only [putAll, List.foldl_cons, List.foldl_nil]
                go_frame
                try simp only [u4, u3]
                go_wp2_with fail
                exact ⟨rfl, _, rfl, Below.refl _ _, rfl⟩
              refine HSteps.cons ?_ ?_
              · intro f w' hb hU
                simp only [putAll, List.foldl_cons, List.foldl_nil]
                go_frame
                obtain u5 : f 242 = .bool false := hU.get ⟨5, .guard⟩ (by simp) rfl
                obtain ⟨x0', x1', x2', x3', x4'⟩ := (kd2.k.keep hb).c5
                try simp only [u5]
                go_wp2_with fail
                exact ⟨rfl, _, rfl, Below.refl _ _, rfl⟩
              refine HSteps.cons ?_ ?_
              · intro f w' hb hU
                simp only [putAll, List.foldl_cons, List.foldl_nil]
                go_frame
                obtain u6 : f 243 = d2.v := hU.get ⟨6, .data⟩ (by simp) rfl
                obtain u5 : f 242 = .bool false := hU.get ⟨5, .chain⟩ (by simp) rfl
                try simp only [u6, u5]
                go_wp2_with fail
                refine (HRz.out w' hb).mono ?_
                rintro e w3 ⟨A', c', rfl, hrr, b3⟩
                go_wp2_with fail
                exact ⟨rfl, _, rfl, b3, A', c', rfl, hrr⟩
              refine HSteps.cons ?_ ?_
              · intro f w' hb hU
                simp only [putAll, List.foldl_cons, List.foldl_nil]
                go_frame
                obtain ⟨A', c', u7, v7_0⟩ : ∃ (A' : Option Addr), ∃ (c' : Nat), f 244 = .slice A' 256 c' ∧ RB w' A' 256 zz := hU.get ⟨7, .data⟩ (by simp) rfl
                obtain u5 : f 242 = .bool false := hU.get ⟨5, .guard⟩ (by simp) rfl
                have cv := run_str (v7_0) 25 9 5 c' Tryd.underlying25 Tryd.underlying5 Tryd.underlying9
                try simp only [u7, u5]
                go_wp2_with fail
                exact ⟨rfl, _, rfl, Below.refl _ _, rfl⟩
              refine HSteps.cons ?_ ?_
              · intro f w' hb hU
                simp only [putAll, List.foldl_cons, List.foldl_nil]
                go_frame
                obtain u5 : f 242 = .bool false := hU.get ⟨5, .guard⟩ (by simp) rfl
                try simp only [u5]
                refine wpList_unguard (by go_simp) ?_
                dsimp only
                go_wp2_with (at_make; refine wp_make _ rfl _ _ 25 rfl w'.heap.size 5 _ 1 bytesT rfl .i64 .i64 _ _ 256 rfl rfl rfl rfl (by omega) (by unfold maxLen; omega) (Nat.le_refl _) ?_; intro w5 hown5 r5; go_frame; rw [zrep, HZ.out] at hown5)
                exact ⟨rfl, _, rfl, (Below.refl _ _).grown r5 (Nat.le_refl _) (fun z hz => by cases hz), _, rfl, RL.of_own hown5⟩
              refine HSteps.cons ?_ ?_
              · intro f w' hb hU
                simp only [putAll, List.foldl_cons, List.foldl_nil]
                go_frame
                obtain ⟨g', u9, v9_0⟩ : ∃ (g' : Nat), f 246 = .slice (some ⟨g', 0, none⟩) 256 256 ∧ RB w' (some ⟨g', 0, none⟩) 256 zz := hU.get ⟨9, .data⟩ (by simp) rfl
                obtain u5 : f 242 = .bool false := hU.get ⟨5, .guard⟩ (by simp) rfl
                have cv := run_str (v9_0) 25 9 5 256 Tryd.underlying25 Tryd.underlying5 Tryd.underlying9
                try simp only [u9, u5]
                go_wp2_with fail
                exact ⟨rfl, _, rfl, Below.refl _ _, rfl⟩
              refine HSteps.cons ?_ ?_
              · intro f w' hb hU
                simp only [putAll, List.foldl_cons, List.foldl_nil]
                go_frame
                obtain u8 : f 245 = .string ⟨zz.toArray⟩ := hU.get ⟨8, .data⟩ (by simp) rfl
                obtain u10 : f 247 = .string ⟨zz.toArray⟩ := hU.get ⟨10, .data⟩ (by simp) rfl
                obtain u5 : f 242 = .bool false := hU.get ⟨5, .guard⟩ (by simp) rfl
                try simp only [u8, u10, u5]
                go_wp2_with fail
                exact ⟨rfl, _, rfl, Below.refl _ _, rfl⟩
              refine HSteps.cons ?_ ?_
              · intro f w' hb hU
                obtain u5 : f 242 = .bool false := hU.get ⟨5, .data⟩ (by simp) rfl
                obtain u11 : f 248 = .bool false := hU.get ⟨11, .data⟩ (by simp) rfl
                simp only [putAll, List.foldl_cons, List.foldl_nil]
                go_frame
                try simp only [u5, u11]
                go_wp2_with fail
                exact ⟨rfl, _, rfl, Below.refl _ _, rfl⟩
              exact HSteps.nil
            case grow =>
              intro kq u wa wb hb hu
              rcases kq with _ | _ | _ | _ | _ | _ | _ | _ | _ | _ | _ | _ | _ | kq
              · exact hu
              · exact hu
              · exact hu
              · exact hu
              · exact hu
              · exact hu
              · exact hu
              · obtain ⟨A', c', ue, uf0⟩ := hu
                exact ⟨A', c', ue, uf0.below hb⟩
              · exact hu
              · obtain ⟨g', ue, uf0⟩ := hu
                exact ⟨g', ue, uf0.below hb⟩
              · exact hu
              · exact hu
              · exact hu
              · trivial
            case tail =>
              intro f w7 hb7 hU
              obtain u12 : f 249 = .bool false := hU.get 12 (by decide)
              simp only [List.drop_succ_cons, List.drop_zero, putAll, List.foldl_cons, List.foldl_nil]
              go_frame
              simp only [u12]
              clear u12
              clear hU
              have C := hb2.trans (hb7.mono hb2.size)
              have kd3 := kd2.keep hb7
              have kl3 := kl2.keep hb7
              have ks3 := ks2.keep hb7
              go_wp2_with fail
              go_roundw
              case measure => simp [intOf]; omega
              case rel => exact ⟨k + 1, d2, D2, l2, s2, f2, by omega, by go_num, kd3, kl3, ks3, HS2, C⟩
        · obtain rfl : k = n := by omega
          go_wp2_with fail
          refine (awake_any _ (HTb.out.keep hbel)).mono ?_
          rintro e w5 ⟨rfl, b5⟩
          go_wp2_with fail
          go_ret
          exact ⟨rfl, hbel.trans (b5.mono hbel.size)⟩
end Go.Proofs.YtlokfndonjldpaaDoor

