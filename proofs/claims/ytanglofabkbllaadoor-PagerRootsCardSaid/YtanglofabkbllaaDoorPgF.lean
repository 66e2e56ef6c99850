/- Whole pagers loaded and stored; Free of package pager, walked. Conditions: the pager fits. -/
import Derived.Test.YtanglofabkbllaaDoorPgr
import Derived.Test.YtanglofabkbllaaDoorStep
import Derived.Laws.ResultCell
set_option linter.unusedSimpArgs false
set_option linter.unusedVariables false
namespace Go.Proofs.YtanglofabkbllaaDoor
open Go.RowKit

section
variable {ops : Array Oper} {rest : List Oper} {Q : Exit → Act → World → Prop} {a : Act} {w : World} {ty : TypeId} {ps : String} {af : Array Edge} {d : Option Tmp} {x y : Operand}
theorem Pgr.one (p : Pgr) : ∀ v ∈ p.cs, v.oneCell' = true := by
  intro v hv
  simp only [Pgr.cs, List.mem_append, List.mem_cons, List.not_mem_nil, or_false, List.mem_map] at hv
  rcases hv with (rfl | rfl | rfl | rfl | rfl | rfl | rfl | rfl | rfl | rfl) | ⟨b, _, rfl⟩ | ⟨b, _, rfl⟩ <;> rfl
theorem wp_loadP (g : Nat) (p : Pgr) (hp : p.ok) (hg : Blk w g 37 p.cs) (hx : a.eval x = .pointer (some ⟨g, 0, none⟩))
    (h : wpList Tryd.prog ops Q rest (a.put d p.v) w) : wpList Tryd.prog ops Q (⟨d, Op.load 37 x, ty, ps, af, none⟩ :: rest) a w :=
  wpList_load_row rfl 37 x rfl g hx 37 p.cs.toArray (0, 0) _ hg Tryd.underlying37 rfl (pgrN.trans (by simp [Pgr.cs_len hp])) h
theorem wp_storeP (g : Nat) (cur : List Value) (p : Pgr) (hp : p.ok) (hg : Blk w g 37 cur) (hl : cur.length = 266) (hx : a.eval x = .pointer (some ⟨g, 0, none⟩)) (hy : a.eval y = p.v)
    (h : ∀ w', Blk w' g 37 p.cs → w.grownBy w' (some g) → wpList Tryd.prog ops Q rest (a.put none undef) w') : wpList Tryd.prog ops Q (⟨none, Op.store 37 x y, ty, ps, af, none⟩ :: rest) a w :=
  wp_storeB g 37 cur p.cs hg (pgrN.trans (by simp [Pgr.cs_len hp])) (by rw [hl, Pgr.cs_len hp]) p.one hx hy h
theorem run_loadP (w : World) (g : Nat) (p : Pgr) (hp : p.ok) (hg : Blk w g 37 p.cs) : (loadVar 37 ⟨g, 0, none⟩).run Tryd.prog w = .ok p.v w :=
  run_loadVar_row w g 37 37 p.cs.toArray (0, 0) _ hg Tryd.underlying37 rfl (pgrN.trans (by simp [Pgr.cs_len hp]))
theorem results_P2 {fn : Func} {i u : Tmp} (h : fn.results = #[.cell i 37, .tmp u]) (tmps : Array Value) (w : World) (g : Nat) (p : Pgr) (hp : p.ok) (hi : tmps.getD i undef = .pointer (some ⟨g, 0, none⟩)) (hg : Blk w g 37 p.cs) :
    (results fn tmps).run Tryd.prog w = .ok (.tuple #[p.v, tmps.getD u undef]) w := by
  rw [results_cell_tmp h, hi]
  simp [asAddr, run_loadP w g p hp hg, Result.andThen]
theorem results_P3 {fn : Func} {i u v : Tmp} (h : fn.results = #[.cell i 37, .tmp u, .tmp v]) (tmps : Array Value) (w : World) (g : Nat) (p : Pgr) (hp : p.ok) (hi : tmps.getD i undef = .pointer (some ⟨g, 0, none⟩)) (hg : Blk w g 37 p.cs) :
    (results fn tmps).run Tryd.prog w = .ok (.tuple #[p.v, tmps.getD u undef, tmps.getD v undef]) w := by
  have hi' : tmps[i]?.getD undef = .pointer (some ⟨g, 0, none⟩) := by simpa using hi
  simp only [results, h]
  simp [Sem.run_bind, Result.andThen, hi', asAddr, run_loadP w g p hp hg]
end
theorem Pgr.zero_ok : Pgr.zero.ok := ⟨by simp [Pgr.zero, zeros128], by simp [Pgr.zero, zeros128], by simp [Pgr.zero], by simp [Pgr.zero], by simp [Pgr.zero], by simp [Pgr.zero]⟩
/-- a pager with one bit of its used set turned -/
def Pgr.turned (p : Pgr) (i : Nat) : Pgr := { p with nu := turn p.nu i }
theorem Pgr.turned_ok {p : Pgr} (h : p.ok) (i : Nat) : (p.turned i).ok := ⟨h.cu, (turn_len _ _).trans h.nu, h.sec, h.pgs, h.num, h.mt⟩
theorem Pgr.turned_cs {p : Pgr} (h : p.ok) (i : Nat) : p.cs.take 138 ++ (turn p.nu i).map byV ++ p.cs.drop (138 + 128) = (p.turned i).cs := by
  have h1 := h.cu
  have h2 := h.nu
  rw [List.drop_of_length_le (by rw [Pgr.cs_len h]; omega), List.append_nil]
  unfold Pgr.cs Pgr.turned
  rw [← List.append_assoc, List.take_append_of_le_length (by simp [h1]), List.take_of_length_le (by simp [h1]), List.append_assoc]
set_option maxRecDepth 100000 in
set_option maxHeartbeats 2000000 in
theorem free_no (p : Pgr) (id : Int) (w : World) (hp : p.ok) (hn : p.uses id = false) :
    Calls Tryd.prog 16 #[p.v, .int .i64 id] w fun e w' => e = .returned (.tuple #[p.v, .int .i64 9]) ∧ Below w.heap.size w w' := by
  have U := fun wx => uses_any p id wx hp
  rw [hn] at U
  go_enter Tryd.func16, Tryd.ntmps16
  unfold Pgr.v
  have hP : Blk (w.alloc (.cells p.cs.toArray 37)) w.heap.size 37 p.cs := Blk.new w _ _
  have hB : Below w.heap.size w (w.alloc (.cells p.cs.toArray 37)) := (Below.refl _ _).alloc (Nat.le_refl _) _
  have hs : (w.alloc (.cells p.cs.toArray 37)).heap.size = w.heap.size + 1 := by simp
  go_wp2_with (first
    | ((with_reducible refine is_alloc 37 ?_); refine wp_allocN (w.heap.size + 1) hs _ arrPgr ?_; intro w2 k2 b2 s2; go_frame; have kP := hP.below b2 (by omega); have hB2 := hB.trans (b2.mono (by omega)); clear hP hB)
    | ((with_reducible refine is_load 37 ?_); refine wp_loadP w.heap.size p hp kP rfl ?_; go_frame))
  refine (U _).mono ?_
  rintro e w3 ⟨rfl, b3⟩
  have kP := kP.keep b3
  have k3 := k2.keep b3
  have hB3 := hB2.trans (b3.mono hB2.size)
  clear k2 hB2 b3
  go_wp2_with (first
    | ((with_reducible refine is_load 37 ?_); refine wp_loadP w.heap.size p hp kP rfl ?_; go_frame)
    | ((with_reducible refine is_store 37 ?_); refine wp_storeP (w.heap.size + 1) _ p hp k3 (by rw [Pgr.cs_len Pgr.zero_ok]) rfl rfl ?_; intro w4 k4 r4; go_frame))
  refine bodyPost_ret (results_P2 (by rfl) _ _ (w.heap.size + 1) p hp rfl k4) rfl ⟨rfl, hB3.grown r4 hB3.size (fun g hg => by cases hg; omega)⟩
set_option maxRecDepth 100000 in
set_option maxHeartbeats 2000000 in
theorem free_good (p : Pgr) (id : Nat) (w : World) (hp : p.ok) (hn : p.uses id = true) (hi : id < 1024) :
    Calls Tryd.prog 16 #[p.v, .int .i64 id] w fun e w' => e = .returned (.tuple #[(p.turned id).v, .int .i64 0]) ∧ Below w.heap.size w w' := by
  have U := fun wx => uses_any p id wx hp
  rw [hn] at U
  have hl := Pgr.cs_len hp
  go_enter Tryd.func16, Tryd.ntmps16
  unfold Pgr.v
  have hP : Blk (w.alloc (.cells p.cs.toArray 37)) w.heap.size 37 p.cs := Blk.new w _ _
  have hB : Below w.heap.size w (w.alloc (.cells p.cs.toArray 37)) := (Below.refl _ _).alloc (Nat.le_refl _) _
  have hs : (w.alloc (.cells p.cs.toArray 37)).heap.size = w.heap.size + 1 := by simp
  go_wp2_with (first
    | ((with_reducible refine is_alloc 37 ?_); refine wp_allocN (w.heap.size + 1) hs _ arrPgr ?_; intro w2 k2 b2 s2; go_frame; have kP := hP.below b2 (by omega); have hB2 := hB.trans (b2.mono (by omega)); clear hP hB)
    | ((with_reducible refine is_load 37 ?_); refine wp_loadP w.heap.size p hp kP rfl ?_; go_frame))
  refine (U _).mono ?_
  rintro e w3 ⟨rfl, b3⟩
  have kP := kP.keep b3
  have k3 := k2.keep b3
  have hB3 := hB2.trans (b3.mono hB2.size)
  clear k2 hB2 b3
  have F := flip_any w.heap.size 138 37 p.cs p.nu id w3 kP hp.nu hi (by omega) (p.csN hp.cu)
  rw [Pgr.turned_cs hp] at F
  go_wp2_with fail
  refine F.mono ?_
  rintro e w4 ⟨rfl, k4, r4⟩
  have k5 := k3.grown r4 (by simp)
  have hB4 := hB3.grown r4 hB3.size (fun g hg => by cases hg; omega)
  clear k3 kP r4 hB3
  go_wp2_with (first
    | ((with_reducible refine is_load 37 ?_); refine wp_loadP w.heap.size (p.turned id) (Pgr.turned_ok hp id) k4 rfl ?_; go_frame)
    | ((with_reducible refine is_store 37 ?_); refine wp_storeP (w.heap.size + 1) _ (p.turned id) (Pgr.turned_ok hp id) k5 (by rw [Pgr.cs_len Pgr.zero_ok]) rfl rfl ?_; intro w6 k6 r6; go_frame))
  refine bodyPost_ret (results_P2 (by rfl) _ _ (w.heap.size + 1) (p.turned id) (Pgr.turned_ok hp id) rfl k6) rfl ⟨rfl, hB4.grown r6 hB4.size (fun g hg => by cases hg; omega)⟩
end Go.Proofs.YtanglofabkbllaaDoor
