/- Blocks that are known whole (array variables), and the walk's laws on them: made, loaded, stored, copied into. Conditions: those of each theorem. -/
import Derived.Test.YtlokfndonjldpaaDoorRegion
import Derived.Laws.CopyOwn
import Derived.Laws.Rows
import Derived.BigFrame
import Derived.Maps.RangeWalk
set_option linter.unusedSimpArgs false
set_option linter.unusedVariables false
namespace Go.Proofs.YtlokfndonjldpaaDoor
open Go.RowKit

/-- block g is just these cells, of type t, none frozen -/
def Blk (w : World) (g : Nat) (t : TypeId) (cs : List Value) : Prop := w.heap[g]? = some (.cells cs.toArray t (0, 0))

section
variable {w w' : World} {g : Nat} {t : TypeId} {cs : List Value}
theorem Blk.lt (h : Blk w g t cs) : g < w.heap.size := (Array.getElem?_eq_some_iff.1 h).1
theorem Blk.cell (h : Blk w g t cs) (i : Nat) : w.cell? ⟨g, i, none⟩ = cs[i]? := by
  rw [cell_of_row w g i cs.toArray t (0, 0) h]; simp
theorem Blk.frozen (h : Blk w g t cs) (i : Nat) : w.frozen? ⟨g, i, none⟩ = false := frozen_of_row w g i cs.toArray t h
theorem Blk.new (w : World) (t : TypeId) (cs : List Value) : Blk (w.alloc (.cells cs.toArray t)) w.heap.size t cs := heap_alloc_new w _
theorem Blk.below {B : Nat} (h : Blk w g t cs) (hb : Below B w w') (hg : g < B) : Blk w' g t cs := (hb.block g hg).trans h
theorem Blk.keep (h : Blk w g t cs) (hb : Below w.heap.size w w') : Blk w' g t cs := h.below hb h.lt
theorem Blk.grown {row : Option Nat} (h : Blk w g t cs) (hb : w.grownBy w' row) (hg : row ≠ some g) : Blk w' g t cs := (hb.block g h.lt (fun e => hg e.symm)).trans h
theorem Blk.set_ (h : Blk w g t cs) (i : Nat) (u : Value) : Blk (w.setCell ⟨g, i, none⟩ u) g t (cs.set i u) := by
  have := heap_setCell_same w g i cs.toArray t u h
  unfold Blk
  rw [this]
  simp
theorem Blk.setg (h : Blk w g t cs) (i : Nat) (u : Value) : w.grownBy (w.setCell ⟨g, i, none⟩ u) (some g) :=
  ⟨rfl, rfl, rfl, by simp, fun k _ hk => heap_setCell_other w ⟨g, i, none⟩ k u (fun e => hk (by simp [e]))⟩
theorem Blk.rl (h : Blk w g t cs) (off n size : Nat) (hn : off + n * size ≤ cs.length) : RL w size (some ⟨g, off, none⟩) n ((cs.drop off).take (n * size)) := by
  refine ⟨by simp; omega, fun _ => ⟨g, off, rfl, h.lt, fun j u hu => ?_⟩⟩
  rw [h.cell]
  rw [List.getElem?_take] at hu
  split at hu
  · rw [List.getElem?_drop] at hu; exact hu
  · cases hu
end
theorem Blk.fz {w : World} {g : Nat} {t : TypeId} {cs : List Value} (h : Blk w g t cs) : ∀ i, w.frozen? ⟨g, i, none⟩ = false := h.frozen
theorem Blk.c1 {w : World} {g : Nat} {t : TypeId} {a : Value} (h : Blk w g t [a]) : w.cell? ⟨g, 0, none⟩ = some a := h.cell 0
theorem Blk.c2 {w : World} {g : Nat} {t : TypeId} {a b : Value} (h : Blk w g t [a, b]) : w.cell? ⟨g, 0, none⟩ = some a ∧ w.cell? ⟨g, 1, none⟩ = some b := ⟨h.cell 0, h.cell 1⟩
theorem Blk.c3 {w : World} {g : Nat} {t : TypeId} {a b c : Value} (h : Blk w g t [a, b, c]) : w.cell? ⟨g, 0, none⟩ = some a ∧ w.cell? ⟨g, 1, none⟩ = some b ∧ w.cell? ⟨g, 2, none⟩ = some c := ⟨h.cell 0, h.cell 1, h.cell 2⟩
theorem Blk.c4 {w : World} {g : Nat} {t : TypeId} {a b c d : Value} (h : Blk w g t [a, b, c, d]) : w.cell? ⟨g, 0, none⟩ = some a ∧ w.cell? ⟨g, 1, none⟩ = some b ∧ w.cell? ⟨g, 2, none⟩ = some c ∧ w.cell? ⟨g, 3, none⟩ = some d := ⟨h.cell 0, h.cell 1, h.cell 2, h.cell 3⟩
theorem Blk.c5 {w : World} {g : Nat} {t : TypeId} {a b c d e : Value} (h : Blk w g t [a, b, c, d, e]) : w.cell? ⟨g, 0, none⟩ = some a ∧ w.cell? ⟨g, 1, none⟩ = some b ∧ w.cell? ⟨g, 2, none⟩ = some c ∧ w.cell? ⟨g, 3, none⟩ = some d ∧ w.cell? ⟨g, 4, none⟩ = some e := ⟨h.cell 0, h.cell 1, h.cell 2, h.cell 3, h.cell 4⟩
theorem Blk.c7 {w : World} {g : Nat} {t : TypeId} {a b c d e f h : Value} (k : Blk w g t [a, b, c, d, e, f, h]) : w.cell? ⟨g, 0, none⟩ = some a ∧ w.cell? ⟨g, 1, none⟩ = some b ∧ w.cell? ⟨g, 2, none⟩ = some c ∧ w.cell? ⟨g, 3, none⟩ = some d ∧ w.cell? ⟨g, 4, none⟩ = some e ∧ w.cell? ⟨g, 5, none⟩ = some f ∧ w.cell? ⟨g, 6, none⟩ = some h := ⟨k.cell 0, k.cell 1, k.cell 2, k.cell 3, k.cell 4, k.cell 5, k.cell 6⟩
def BlkB (w : World) (g : Nat) (t : TypeId) (l : List UInt8) : Prop := Blk w g t (l.map byV)
theorem BlkB.rb {w : World} {g : Nat} {t : TypeId} {l : List UInt8} (h : BlkB w g t l) (off n : Nat) (hn : off + n ≤ l.length) : RB w (some ⟨g, off, none⟩) n ((l.drop off).take n) := by
  have := Blk.rl h off n 1 (by simpa using hn)
  unfold RB
  simpa [List.map_take, List.map_drop] using this

section
variable {P : Program} {ops : Array Oper} {rest : List Oper} {Q : Exit → Act → World → Prop} {a : Act} {w : World} {ty : TypeId} {ps : String} {af : Array Edge} {d : Option Tmp} {g : Option (Nat × Bool)}
/-- the walk stands at such an operation (asked with nothing opened) -/
theorem is_alloc (t : TypeId) (h : wpList P ops Q (⟨d, Op.alloc t, ty, ps, af, g⟩ :: rest) a w) : wpList P ops Q (⟨d, Op.alloc t, ty, ps, af, g⟩ :: rest) a w := h
theorem is_load (t : TypeId) {x : Operand} (h : wpList P ops Q (⟨d, Op.load t x, ty, ps, af, g⟩ :: rest) a w) : wpList P ops Q (⟨d, Op.load t x, ty, ps, af, g⟩ :: rest) a w := h
theorem is_store (t : TypeId) {x y : Operand} (h : wpList P ops Q (⟨d, Op.store t x y, ty, ps, af, g⟩ :: rest) a w) : wpList P ops Q (⟨d, Op.store t x y, ty, ps, af, g⟩ :: rest) a w := h
theorem is_copy {as : Array Operand} {ts : Array TypeId} (h : wpList P ops Q (⟨d, Op.call { callee := .builtin .copy, args := as, argTypes := ts }, ty, ps, af, g⟩ :: rest) a w) : wpList P ops Q (⟨d, Op.call { callee := .builtin .copy, args := as, argTypes := ts }, ty, ps, af, g⟩ :: rest) a w := h
end

theorem BlkB.cells {w : World} {g : Nat} {t : TypeId} {l : List UInt8} (h : BlkB w g t l) {n : Nat} (hn : l.length = n) : RB w (some ⟨g, 0, none⟩) n l := by
  have := h.rb 0 n (by omega)
  rwa [List.drop_zero, List.take_of_length_le (by omega)] at this
/-- a row that was made full is its whole block -/
theorem own_blk {w : World} {base : Nat} {e : TypeId} {g n : Nat} {xs : List Value} (h : w.ownsRow base e 1 (.slice (some ⟨g, 0, none⟩) n n) n xs) : Blk w g e xs := by
  obtain ⟨hl, h | ⟨g', cap, cur, h1, _, h2, _, _, h3, h4⟩⟩ := h
  · cases h.1
  · cases h1
    unfold Blk
    rw [h2]
    have : cur.toList.take (n * 1) = cur.toList := List.take_of_length_le (by simp; omega)
    rw [this] at h4
    rw [← h4]
theorem own_of_blk {w : World} {base : Nat} {e : TypeId} {g n : Nat} {xs : List Value} (h : Blk w g e xs) (hb : base ≤ g) (hn : xs.length = n) (hm : n ≤ 9223372036854775807) : w.ownsRow base e 1 (.slice (some ⟨g, 0, none⟩) n n) n xs :=
  ⟨by rw [hn, Nat.mul_one], .inr ⟨g, n, xs.toArray, rfl, hb, h, Nat.le_refl _, by unfold maxLen; exact hm, by simp [hn], by rw [List.take_of_length_le (by simp; omega)]⟩⟩
theorem Blk.list {w : World} {g : Nat} {t : TypeId} {cs : List Value} {n : Nat} (h : Blk w g t cs) (hn : cs.length = n) : RL w 1 (some ⟨g, 0, none⟩) n cs := by
  have := h.rl 0 n 1 (by omega)
  rwa [List.drop_zero, List.take_of_length_le (by omega)] at this
/-- zeros (a name that simp does not write out) -/
def zeroB (m : Nat) : List UInt8 := List.replicate m 0
theorem zeroB_len (m : Nat) : (zeroB m).length = m := by simp [zeroB]
theorem drop_zeroB (k m : Nat) : (zeroB m).drop k = zeroB (m - k) := by simp [zeroB]
theorem zeroB_at {m k : Nat} (h : k < m) : (zeroB m)[k]? = some 0 := by simp [zeroB, h]
theorem zeroB_cons {m : Nat} (h : 0 < m) : zeroB m = 0 :: zeroB (m - 1) := by
  obtain ⟨k, rfl⟩ : ∃ k, m = k + 1 := ⟨m - 1, by omega⟩
  rfl
/-- a block that is filled from its front -/
theorem fill_front (pre xs : List UInt8) (m off : Nat) (hp : pre.length = off) :
    ((pre ++ zeroB m).map byV).take off ++ xs.map byV ++ ((pre ++ zeroB m).map byV).drop (off + xs.length) = ((pre ++ xs) ++ zeroB (m - xs.length)).map byV := by
  subst hp
  rw [← List.map_take, ← List.map_drop, ← List.map_append, ← List.map_append]
  congr 1
  have e : List.drop (pre.length + xs.length) pre = [] := List.drop_eq_nil_of_le (by omega)
  simp [List.take_append, List.drop_append, e, drop_zeroB]
theorem fill_one (pre : List UInt8) (x : UInt8) (m off : Nat) (hp : pre.length = off) (hm : 0 < m) :
    ((pre ++ zeroB m).map byV).set off (byV x) = ((pre ++ [x]) ++ zeroB (m - 1)).map byV := by
  subst hp
  rw [← List.map_set, List.set_append_right _ _ (by omega), zeroB_cons hm]
  simp

/-- what is asked of an array type: its zero value and size -/
def ArrT (P : Program) (t : TypeId) (cs : List Value) : Prop := (P.info? t).map (fun i => (i.zero, i.size)) = some (some (.agg cs.toArray), cs.length)

section
variable {P : Program} {ops : Array Oper} {rest : List Oper} {Q : Exit → Act → World → Prop} {a : Act} {w : World} {ty : TypeId} {ps : String} {af : Array Edge}

theorem run_zeroV {t : TypeId} {cs : List Value} (hz : ArrT P t cs) (w : World) : (zeroValue t).run P w = .ok (.agg cs.toArray) w := by
  unfold ArrT at hz
  cases hq : P.info? t with
  | none => simp [hq] at hz
  | some i =>
    simp [hq] at hz
    simp [zeroValue, typeInfo, hq, hz.1]
theorem run_alloc_arr (t : TypeId) (cs : List Value) (hz : ArrT P t cs) (w : World) : (Instr.alloc t true (.tuple #[])).run P w = .ok (.pointer (some ⟨w.heap.size, 0, none⟩)) (w.alloc (.cells cs.toArray t)) := by
  unfold ArrT at hz
  cases hq : P.info? t with
  | none => simp [hq] at hz
  | some i =>
    simp [hq] at hz
    have hzr : (zeroValue t).run P w = .ok (.agg cs.toArray) w := by simp [zeroValue, typeInfo, hq, hz.1]
    simp [Instr.alloc, hzr, newVar, Value.cells]
    rfl

theorem wp_allocB {d : Tmp} {t : TypeId} (cs : List Value) (hz : ArrT P t cs)
    (hK : ∀ w', Blk w' w.heap.size t cs → Below w.heap.size w w' → w'.heap.size = w.heap.size + 1 → wpList P ops Q rest (a.put (some d) (.pointer (some ⟨w.heap.size, 0, none⟩))) w') :
    wpList P ops Q (⟨some d, Op.alloc t, ty, ps, af, none⟩ :: rest) a w := by
  refine wpList_plain rfl fun K hK' => ?_
  unfold Oper.wp
  simp [execOp, run_alloc_arr t cs hz, Result.andThen, Oper.upon]
  exact hK' _ _ (hK _ (Blk.new _ _ _) ((Below.refl _ _).alloc (Nat.le_refl _) _) (by simp))

theorem wp_allocN {d : Tmp} {t : TypeId} (H : Nat) (hH : w.heap.size = H) (cs : List Value) (hz : ArrT P t cs)
    (hK : ∀ w', Blk w' H t cs → Below H w w' → w'.heap.size = H + 1 → wpList P ops Q rest (a.put (some d) (.pointer (some ⟨H, 0, none⟩))) w') :
    wpList P ops Q (⟨some d, Op.alloc t, ty, ps, af, none⟩ :: rest) a w := by
  subst hH
  exact wp_allocB cs hz hK
theorem wp_loadB {d : Tmp} {t : TypeId} {x : Operand} (g n : Nat) (e tb : TypeId) (cs : List Value) (hg : Blk w g tb cs) (hu : P.underlying t = some (.array n e)) (hi : (P.info? t).map (·.size) = some cs.length)
    (hx : a.eval x = .pointer (some ⟨g, 0, none⟩))
    (h : wpList P ops Q rest (a.put (some d) (.agg cs.toArray)) w) : wpList P ops Q (⟨some d, Op.load t x, ty, ps, af, none⟩ :: rest) a w :=
  wpList_load_row rfl t x rfl g hx tb cs.toArray (0, 0) _ hg hu rfl (by simpa using hi) h

theorem wp_storeB {t : TypeId} {x y : Operand} (g : Nat) (tb : TypeId) (cur cs : List Value) (hg : Blk w g tb cur) (hi : (P.info? t).map (·.size) = some cs.length) (hl : cur.length = cs.length) (h1 : ∀ v ∈ cs, v.oneCell' = true)
    (hx : a.eval x = .pointer (some ⟨g, 0, none⟩)) (hy : a.eval y = .agg cs.toArray)
    (h : ∀ w', Blk w' g tb cs → w.grownBy w' (some g) → wpList P ops Q rest (a.put none undef) w') : wpList P ops Q (⟨none, Op.store t x y, ty, ps, af, none⟩ :: rest) a w := by
  refine wpList_plain rfl fun K hK => ?_
  have hs := run_storeCells_at P g 0 tb cs 0 cur.toArray w hg (by simp; omega) h1
  have hrun : (Instr.storeAt t (.pointer (some ⟨g, 0, none⟩)) (.agg cs.toArray)).run P w = .ok () (w.setRow g cs.toArray) := by
    cases hq : P.info? t with
    | none => simp [hq] at hi
    | some i =>
      simp [hq] at hi
      have e1 : (cur.toArray.toList.take (0 + 0) ++ cs ++ cur.toArray.toList.drop (0 + 0 + cs.length)).toArray = cs.toArray := by
        simp; omega
      rw [e1] at hs
      simp [Instr.storeAt, Instr.sureAddr, storeVar, sizeOf, typeInfo, hq, Value.cells, hi, hs]
  unfold Oper.wp
  simp [execOp, hx, hy, hrun, Result.andThen, Oper.upon]
  exact hK _ _ (h _ (setRow_heap w g _ _ tb _ hg) ⟨rfl, rfl, rfl, by simp [World.setRow], fun k _ hk => setRow_other w g k _ (fun e => hk (by rw [e]))⟩)

/-- a store at a place of a block -/
theorem wp_storeO {t : TypeId} {x y : Operand} (g off : Nat) (tb : TypeId) (cur cs : List Value) (v : Value) (hg : Blk w g tb cur) (hv : v.cells = cs.toArray) (hi : (P.info? t).map (·.size) = some cs.length) (hl : off + cs.length ≤ cur.length) (h1 : ∀ v ∈ cs, v.oneCell' = true)
    (hx : a.eval x = .pointer (some ⟨g, off, none⟩)) (hy : a.eval y = v)
    (h : ∀ w', Blk w' g tb (cur.take off ++ cs ++ cur.drop (off + cs.length)) → w.grownBy w' (some g) → wpList P ops Q rest (a.put none undef) w') : wpList P ops Q (⟨none, Op.store t x y, ty, ps, af, none⟩ :: rest) a w := by
  refine wpList_plain rfl fun K hK => ?_
  have hs := run_storeCells_at P g off tb cs 0 cur.toArray w hg (by simp; omega) h1
  have hrun : (Instr.storeAt t (.pointer (some ⟨g, off, none⟩)) v).run P w = .ok () (w.setRow g (cur.take off ++ cs ++ cur.drop (off + cs.length)).toArray) := by
    cases hq : P.info? t with
    | none => simp [hq] at hi
    | some i =>
      simp [hq] at hi
      simp only [Nat.add_zero] at hs
      simp [Instr.storeAt, Instr.sureAddr, storeVar, sizeOf, typeInfo, hq, hv, hi]
      simpa using hs
  unfold Oper.wp
  simp only [execOp, hx, hy, hrun, Sem.run_bind, Result.andThen, Oper.upon, Sem.run_pure]
  refine hK _ _ (h _ ?_ ⟨rfl, rfl, rfl, by simp [World.setRow], fun k _ hk => setRow_other w g k _ (fun e => hk (by rw [e]))⟩)
  have := setRow_heap w g cur.toArray ((cur.take off ++ cs ++ cur.drop (off + cs.length)).toArray) tb _ hg
  unfold Blk
  rw [this]
/-- a store of one cell -/
theorem wp_store1 {t : TypeId} {x y : Operand} (g off : Nat) (tb : TypeId) (cur : List Value) (v : Value) (hg : Blk w g tb cur) (hv : v.cells = #[v]) (hi : (P.info? t).map (·.size) = some 1) (hl : off < cur.length) (h1 : v.oneCell' = true)
    (hx : a.eval x = .pointer (some ⟨g, off, none⟩)) (hy : a.eval y = v)
    (h : ∀ w', Blk w' g tb (cur.set off v) → w.grownBy w' (some g) → wpList P ops Q rest (a.put none undef) w') : wpList P ops Q (⟨none, Op.store t x y, ty, ps, af, none⟩ :: rest) a w := by
  refine wp_storeO g off tb cur [v] v hg hv hi hl (by simpa using h1) hx hy fun w' hw' hr => h w' ?_ hr
  rw [List.set_eq_take_append_cons_drop, if_pos hl]
  simpa using hw'

/-- copy into a block, out of a slice that reads -/
theorem wp_copyB {od : Option Tmp} {dT sT : TypeId} {x y : Operand} (g off dLen dCap : Nat) (e tb : TypeId) (cur : List Value) (hg : Blk w g tb cur) (hu : P.underlying dT = some (.slice e)) (hsz : (P.info? e).map (·.size) = some 1)
    (A : Option Addr) (n c : Nat) (xs : List Value) (hr : RL w 1 A n xs) (h1 : ∀ v ∈ xs, v.oneCell' = true)
    (hx : a.eval x = .slice (some ⟨g, off, none⟩) dLen dCap) (hy : a.eval y = .slice A n c) (hfit : off + dLen ≤ cur.length)
    (h : ∀ w', Blk w' g tb (cur.take off ++ xs.take (min n dLen) ++ cur.drop (off + min n dLen)) → w.grownBy w' (some g) → wpList P ops Q rest (a.put od (goInt (min n dLen : Nat))) w') :
    wpList P ops Q (⟨od, Op.call { callee := .builtin .copy, args := #[x, y], argTypes := #[dT, sT] }, ty, ps, af, none⟩ :: rest) a w := by
  by_cases h0 : min n dLen = 0
  · refine wpList_copy_nothing rfl x y dT sT rfl e hu hsz _ _ _ _ _ _ hx hy h0 ?_
    have := h w (by rw [h0]; simpa using hg) (World.grownBy.refl w _)
    rw [h0] at this
    exact this
  · obtain ⟨b, o, rfl, hb, hc⟩ := hr.2 (by omega)
    have hl := hr.1
    have hcl : (xs.take (min n dLen)).length = min n dLen := by simp; omega
    refine wpList_copy_own rfl x y dT sT rfl e hu hsz g off dLen dCap ⟨b, o, none⟩ n c hx hy cur.toArray tb hg (xs.take (min n dLen)) hcl (fun j v hj => ?_) (by simp; omega) (fun v hv => h1 v (List.mem_of_mem_take hv)) ?_
    · rw [add_spot]
      rw [List.getElem?_take] at hj
      split at hj
      · exact hc j v hj
      · cases hj
    · rw [hcl]
      refine h _ ?_ ⟨rfl, rfl, rfl, by simp [World.setRow], fun k _ hk => setRow_other w g k _ (fun e => hk (by rw [e]))⟩
      have := setRow_heap w g cur.toArray ((cur.toArray.toList.take off ++ (xs.take (min n dLen) ++ cur.toArray.toList.drop (off + min n dLen))).toArray) tb _ hg
      unfold Blk
      rw [this]
      simp

/-- copy into a block, out of a string -/
theorem wp_copyS {od : Option Tmp} {dT sT : TypeId} {x y : Operand} (g off dLen dCap : Nat) (e tb : TypeId) (cur : List Value) (hg : Blk w g tb cur) (hu : P.underlying dT = some (.slice e)) (hsz : (P.info? e).map (·.size) = some 1)
    (l : List UInt8)
    (hx : a.eval x = .slice (some ⟨g, off, none⟩) dLen dCap) (hy : a.eval y = .string ⟨l.toArray⟩) (hfit : off + dLen ≤ cur.length) (hd : l.length ≤ dLen)
    (h : ∀ w', Blk w' g tb (cur.take off ++ l.map byV ++ cur.drop (off + l.length)) → w.grownBy w' (some g) → wpList P ops Q rest (a.put od (goInt l.length)) w') :
    wpList P ops Q (⟨od, Op.call { callee := .builtin .copy, args := #[x, y], argTypes := #[dT, sT] }, ty, ps, af, none⟩ :: rest) a w := by
  refine wpList_plain rfl fun K hK => ?_
  have hs := run_storeCells_at P g off tb (l.map byV) 0 cur.toArray w hg (by simp; omega) (byV_one l)
  have hrun : (Builtin.copy_ #[dT, sT] ty #[.slice (some ⟨g, off, none⟩) dLen dCap, .string ⟨l.toArray⟩]).run P w = .ok (goInt l.length) (w.setRow g (cur.take off ++ l.map byV ++ cur.drop (off + l.length)).toArray) := by
    cases hq : P.info? e with
    | none => simp [hq] at hsz
    | some i =>
      have hmin : (⟨l.toArray⟩ : ByteArray).size.min dLen = l.length := by
        show Nat.min l.toArray.size dLen = _
        rw [List.size_toArray]; exact Nat.min_eq_left hd
      have hex : (Array.map (fun b : UInt8 => Value.int .u8 ↑b.toNat) ((⟨l.toArray⟩ : ByteArray).extract 0 l.length).data).toList = l.map byV := by
        have : ((⟨l.toArray⟩ : ByteArray).extract 0 l.length).data = l.toArray := by
          rw [ByteArray.data_extract]; simp
        rw [this]
        simp [byV, N8]
      simp [Builtin.copy_, run_underlying hu, Builtin.lenOf, hmin, sizeOf, typeInfo, hq, Builtin.firstCells, hex]
      have e2 : (List.take l.length (List.map (fun b : UInt8 => Value.int .u8 ↑b.toNat) l)) = l.map byV := by rw [List.take_of_length_le (by simp)]; rfl
      rw [e2, hs]
      simp [Result.andThen]
  unfold Oper.wp
  simp [execOp, resolve, invoke, builtin, hx, hy, hrun, Result.andThen, Oper.upon]
  refine hK _ _ (h _ ?_ ⟨rfl, rfl, rfl, by simp [World.setRow], fun k _ hk => setRow_other w g k _ (fun e => hk (by rw [e]))⟩)
  have := setRow_heap w g cur.toArray ((cur.take off ++ (l.map byV ++ cur.drop (off + l.length))).toArray) tb _ hg
  unfold Blk
  rw [this]
  simp

/-- a block is filled from its front, out of a slice -/
theorem wp_copyF {od : Option Tmp} {dT sT : TypeId} {x y : Operand} (g off dLen dCap : Nat) (e tb : TypeId) (pre : List UInt8) (m : Nat) (hg : BlkB w g tb (pre ++ zeroB m)) (hp : pre.length = off) (hu : P.underlying dT = some (.slice e)) (hsz : (P.info? e).map (·.size) = some 1)
    (A : Option Addr) (n c : Nat) (l : List UInt8) (hr : RB w A n l)
    (hx : a.eval x = .slice (some ⟨g, off, none⟩) dLen dCap) (hy : a.eval y = .slice A n c) (hfit : dLen ≤ m)
    (h : ∀ w', BlkB w' g tb ((pre ++ l.take (min n dLen)) ++ zeroB (m - min n dLen)) → w.grownBy w' (some g) → wpList P ops Q rest (a.put od (goInt (min n dLen : Nat))) w') :
    wpList P ops Q (⟨od, Op.call { callee := .builtin .copy, args := #[x, y], argTypes := #[dT, sT] }, ty, ps, af, none⟩ :: rest) a w := by
  have hl : (l.take (min n dLen)).length = min n dLen := by have := hr.1; simp at this; simp; omega
  refine wp_copyB g off dLen dCap e tb _ hg hu hsz A n c _ hr (byV_one l) hx hy (by simp [zeroB_len]; omega) fun w' hw' hg' => h w' ?_ hg'
  have := fill_front pre (l.take (min n dLen)) m off hp
  rw [hl] at this
  unfold BlkB
  rw [← this, List.map_take]
  exact hw'
/-- a block is filled from its front, out of a string -/
theorem wp_copyFS {od : Option Tmp} {dT sT : TypeId} {x y : Operand} (g off dLen dCap : Nat) (e tb : TypeId) (pre : List UInt8) (m : Nat) (hg : BlkB w g tb (pre ++ zeroB m)) (hp : pre.length = off) (hu : P.underlying dT = some (.slice e)) (hsz : (P.info? e).map (·.size) = some 1)
    (l : List UInt8)
    (hx : a.eval x = .slice (some ⟨g, off, none⟩) dLen dCap) (hy : a.eval y = .string ⟨l.toArray⟩) (hfit : dLen ≤ m) (hd : l.length ≤ dLen)
    (h : ∀ w', BlkB w' g tb ((pre ++ l) ++ zeroB (m - l.length)) → w.grownBy w' (some g) → wpList P ops Q rest (a.put od (goInt l.length)) w') :
    wpList P ops Q (⟨od, Op.call { callee := .builtin .copy, args := #[x, y], argTypes := #[dT, sT] }, ty, ps, af, none⟩ :: rest) a w := by
  refine wp_copyS g off dLen dCap e tb _ hg hu hsz l hx hy (by simp [zeroB_len]; omega) hd fun w' hw' hg' => h w' ?_ hg'
  unfold BlkB
  rw [← fill_front pre l m off hp]
  exact hw'
end
end Go.Proofs.YtlokfndonjldpaaDoor
