/- The acts of layer 13's laws as values; bytesOf, few, walked. Conditions: the act's numbers fit. Page stores of layer 13's laws as values: loaded, stored, built. Conditions: the pager fits. -/
import Derived.Test.YtanglofabkbllaaDoorRS
import Derived.Test.YtanglofabkbllaaDoorRep
set_option linter.unusedSimpArgs false
set_option linter.unusedVariables false
namespace Go.Proofs.YtanglofabkbllaaDoor
open Go.RowKit

/-- an act -/
structure Ac where
  (o n f l ch : Nat)
def Ac.cs (x : Ac) : List Value := [.int .u8 x.o, .int .u8 x.n, .int .u8 x.f, .int .u16 x.l, .int .u64 x.ch]
def Ac.val (x : Ac) : Value := .agg #[.int .u8 x.o, .int .u8 x.n, .int .u8 x.f, .int .u16 x.l, .int .u64 x.ch]
structure Ac.ok (x : Ac) : Prop where
  o : x.o < 256
  n : x.n < 256
  f : x.f < 256
  l : x.l < 65536
  c : x.ch < 18446744073709551616
theorem ac_one (x : Ac) : ∀ v ∈ x.cs, v.oneCell' = true := by
  intro v hv
  simp only [Ac.cs, List.mem_cons, List.not_mem_nil, or_false] at hv
  rcases hv with rfl | rfl | rfl | rfl | rfl <;> rfl
theorem arrAct : ArrT Tryd.prog 66 (⟨0, 0, 0, 0, 0⟩ : Ac).cs := (by kernel_rfl : (Tryd.prog.info? 66).map (fun i => (i.zero, i.size)) = some (some (.agg (⟨0, 0, 0, 0, 0⟩ : Ac).cs.toArray), 5))
theorem actN : (Tryd.prog.info? 66).map (·.size) = some 5 := by kernel_rfl
def rep (n f : Nat) : List UInt8 := List.replicate n (UInt8.ofNat f)
theorem rep_len (n f : Nat) : (rep n f).length = n := by simp [rep]
set_option maxRecDepth 100000 in
set_option maxHeartbeats 2000000 in
theorem bytesOf_any (n f : Nat) (w : World) (hf : f < 256) (hn : n ≤ 8192) :
    Calls Tryd.prog 21 #[.int .i64 n, .int .u8 f] w fun e w' => ∃ g, e = .returned (.slice (some ⟨g, 0, none⟩) n n) ∧ w.heap.size ≤ g ∧ g < w'.heap.size ∧ RB w' (some ⟨g, 0, none⟩) n (rep n f) ∧ Below w.heap.size w w' := by
  have hx : Value.int .u8 (f : Int) = byV (UInt8.ofNat f) := by
    unfold byV N8
    simp
    omega
  rw [hx]
  generalize hfx : UInt8.ofNat f = x
  have hB : Below w.heap.size w (w.alloc (.cells #[byV x] 5)) := (Below.refl _ _).alloc (Nat.le_refl _) _
  have R := repeat_any x n (some ⟨w.heap.size, 0, none⟩) 1 (w.alloc (.cells #[byV x] 5)) (RL.new w #[byV x] 5 (0, 0) 1 1 rfl) hn
  unfold byV at R hB ⊢
  go_enter Tryd.func21, Tryd.ntmps21
  go_wp2_with fail
  refine R.mono ?_
  rintro e w2 ⟨g, rfl, h1, h2, h3, b2⟩
  go_wp2_with fail
  go_ret
  exact ⟨g, rfl, by have := hB.size; omega, h2, by unfold rep; rw [hfx]; exact h3, hB.trans (b2.mono hB.size)⟩
/-- whether the input is small -/
def fewB (X : List Ac) : Bool := X.all (fun x => decide (x.l ≤ 1100)) && decide (X.length ≤ 30)
set_option maxRecDepth 100000 in
set_option maxHeartbeats 4000000 in
theorem few_any (A : Option Addr) (n c : Nat) (X : List Ac) (w : World) (hX : X.length = n) (hr : RL w 5 A n (X.flatMap Ac.cs)) (hnc : n ≤ c) (hcm : c ≤ 9223372036854775807) :
    Calls Tryd.prog 20 #[.slice A n c] w fun e w' => e = .returned (.bool (fewB X)) ∧ Below w.heap.size w w' := by
  have HX := hid hX
  have HR := hid hr
  clear hX hr
  go_enter Tryd.func20, Tryd.ntmps20
  go_wp2_with fail
  go_loopw [7] (fun i wr => ∃ k : Nat, k ≤ n ∧ i = .int .i64 k ∧ Below w.heap.size w wr ∧ Hid (∀ x ∈ X.take k, x.l ≤ 1100)) (fun i _ => n - (intOf i).toNat)
  case atStart => exact ⟨0, by omega, rfl, Below.refl _ _, hid (fun x hx => by simp at hx)⟩
  case round =>
    obtain ⟨k, hk, rfl, hbel, HK⟩ := hrel
    by_cases hlt : k < n
    · obtain ⟨b, off, x, rfl, hbb, hx, hcell⟩ := (HR.out.below hbel).el (f := Ac.cs) (fun _ => rfl) hlt (by omega)
      have C0 := hcell 0 _ rfl
      have C1 := hcell 1 _ rfl
      have C2 := hcell 2 _ rfl
      have C3 := hcell 3 _ rfl
      have C4 := hcell 4 _ rfl
      rw [Nat.add_zero] at C0
      have HXx := hid hx
      clear hcell hx
      have tk : (k : Int) < (n : Int) := by omega
      by_cases hl : x.l ≤ 1100
      · have tl : ¬ (x.l : Int) > 1100 := by omega
        go_wp2_with (first
          | ((with_reducible refine is_alloc 66 ?_); refine wp_allocB (w := wr) _ arrAct ?_; intro w5 k5 b5 s5; go_frame)
          | ((with_reducible refine is_store 66 ?_); refine wp_storeB wr.heap.size _ _ x.cs k5 actN rfl (ac_one _) rfl rfl ?_; intro w6 k6 r6; go_frame; obtain ⟨a0, a1, a2, a3, a4⟩ := k6.c5; have l6 := k6.lt))
        have hb6 := (hbel.trans (b5.mono hbel.size)).grown r6 (by have := hbel.size; have := b5.size; omega) (fun z hz => by cases hz; exact hbel.size)
        go_roundw
        case measure => simp [intOf]; omega
        case rel => exact ⟨k + 1, by omega, by go_num, hb6, hid (fun y hy => by
          rw [List.take_add_one, HXx.out] at hy
          rcases List.mem_append.1 hy with hy | hy
          · exact HK.out y hy
          · simp at hy; rw [hy]; exact hl)⟩
      · have tl : (x.l : Int) > 1100 := by omega
        go_wp2_with (first
          | ((with_reducible refine is_alloc 66 ?_); refine wp_allocB (w := wr) _ arrAct ?_; intro w5 k5 b5 s5; go_frame)
          | ((with_reducible refine is_store 66 ?_); refine wp_storeB wr.heap.size _ _ x.cs k5 actN rfl (ac_one _) rfl rfl ?_; intro w6 k6 r6; go_frame; obtain ⟨a0, a1, a2, a3, a4⟩ := k6.c5; have l6 := k6.lt))
        have hb6 := (hbel.trans (b5.mono hbel.size)).grown r6 (by have := hbel.size; have := b5.size; omega) (fun z hz => by cases hz; exact hbel.size)
        go_ret
        have ef : fewB X = false := by
          unfold fewB
          rw [Bool.and_eq_false_iff]
          refine .inl ?_
          rw [Bool.eq_false_iff]
          intro h
          have := List.all_eq_true.1 h x (List.mem_of_getElem? HXx.out)
          exact hl (by simpa using this)
        rw [ef]
        exact ⟨rfl, hb6⟩
    · obtain rfl : k = n := by omega
      have ea : X.all (fun x => decide (x.l ≤ 1100)) = true := by
        rw [List.all_eq_true]
        intro x hx
        have := HK.out x (by rw [List.take_of_length_le (by rw [HX.out]; exact Nat.le_refl _)]; exact hx)
        simpa using this
      have ef : fewB X = decide (k ≤ 30) := by
        unfold fewB
        rw [ea, HX.out, Bool.true_and]
      have HE := hid ef
      clear ef ea
      have ed : decide ((k : Int) ≤ 30) = decide (k ≤ 30) := by
        rw [Bool.eq_iff_iff]
        simp only [decide_eq_true_eq]
        omega
      go_wp2_with fail
      go_ret
      exact ⟨by rw [HE.out]; first | rfl | (rw [← ed]; rfl), hbel⟩
end Go.Proofs.YtanglofabkbllaaDoor
set_option linter.unusedSimpArgs false
set_option linter.unusedVariables false
namespace Go.Proofs.YtanglofabkbllaaDoor
open Go.RowKit

structure StV where
  (p : Pgr) (v : RV) (sec : Nat)
def StV.cs (x : StV) : List Value := x.p.cs ++ x.v.cs ++ [.int .i64 x.sec]
def StV.val (x : StV) : Value := .agg x.cs.toArray
def StV.zero : StV := ⟨Pgr.zero, RV.zero, 0⟩
theorem StV.cs_len {x : StV} (h : x.p.ok) : x.cs.length = 274 := by
  unfold StV.cs
  rw [List.length_append, List.length_append, Pgr.cs_len h]
  rfl
theorem StV.one (x : StV) : ∀ v ∈ x.cs, v.oneCell' = true := by
  intro v hv
  unfold StV.cs at hv
  rcases List.mem_append.1 hv with hv | hv
  · rcases List.mem_append.1 hv with hv | hv
    · exact x.p.one v hv
    · exact rv_one x.v v hv
  · rw [List.mem_singleton] at hv
    rw [hv]
    rfl
set_option maxRecDepth 100000 in
theorem arrSto : ArrT Tryd.prog 63 StV.zero.cs := (by kernel_rfl : (Tryd.prog.info? 63).map (fun i => (i.zero, i.size)) = some (some (.agg StV.zero.cs.toArray), 274))
theorem stoN : (Tryd.prog.info? 63).map (·.size) = some 274 := by kernel_rfl
/-- the parts' cells -/
theorem StV.rangeP {x : StV} {w : World} {g : Nat} (h : x.p.ok) (hk : Blk w g 63 x.cs) : w.rangeAt g 0 x.p.cs := fun j v hv => by
  rw [hk.cell, Nat.zero_add]
  unfold StV.cs
  rw [List.append_assoc, List.getElem?_append_left (List.getElem?_eq_some_iff.1 hv).1]
  exact hv
theorem StV.rangeV {x : StV} {w : World} {g : Nat} (h : x.p.ok) (hk : Blk w g 63 x.cs) : w.rangeAt g 266 x.v.cs := fun j v hv => by
  rw [hk.cell]
  unfold StV.cs
  rw [List.append_assoc, List.getElem?_append_right (by rw [Pgr.cs_len h]; omega), Pgr.cs_len h, show 266 + j - 266 = j by omega, List.getElem?_append_left (List.getElem?_eq_some_iff.1 hv).1]
  exact hv
theorem StV.cellS {x : StV} {w : World} {g : Nat} (h : x.p.ok) (hk : Blk w g 63 x.cs) : w.cell? ⟨g, 273, none⟩ = some (.int .i64 x.sec) := by
  rw [hk.cell]
  unfold StV.cs
  rw [List.getElem?_append_right (by rw [List.length_append, Pgr.cs_len h]; exact Nat.le_refl _), List.length_append, Pgr.cs_len h]
  rfl
theorem StV.cellN {x : StV} {w : World} {g : Nat} (h : x.p.ok) (hk : Blk w g 63 x.cs) : w.cell? ⟨g, 266, none⟩ = some (.int .i64 x.v.n) := StV.rangeV h hk 0 _ rfl
theorem StV.setP {x : StV} (h : x.p.ok) (p : Pgr) : x.cs.take 0 ++ p.cs ++ x.cs.drop (0 + 266) = (StV.mk p x.v x.sec).cs := by
  unfold StV.cs
  rw [List.append_assoc x.p.cs, List.take_zero, List.nil_append, Nat.zero_add, List.drop_left' (Pgr.cs_len h), List.append_assoc]
theorem StV.setV {x : StV} (h : x.p.ok) (v : RV) : x.cs.take 266 ++ v.cs ++ x.cs.drop (266 + 7) = (StV.mk x.p v x.sec).cs := by
  unfold StV.cs
  rw [show (x.p.cs ++ x.v.cs ++ [Value.int .i64 x.sec]).drop (266 + 7) = [Value.int .i64 x.sec] from List.drop_left' (by rw [List.length_append, Pgr.cs_len h]; rfl), List.append_assoc x.p.cs, List.take_left' (Pgr.cs_len h)]
section
variable {ops : Array Oper} {rest : List Oper} {Q : Exit → Act → World → Prop} {a : Act} {w : World} {ty : TypeId} {ps : String} {af : Array Edge} {d : Option Tmp} {x y z : Operand}
theorem wp_loadT (g : Nat) (s : StV) (hs : s.p.ok) (hg : Blk w g 63 s.cs) (hx : a.eval x = .pointer (some ⟨g, 0, none⟩))
    (h : wpList Tryd.prog ops Q rest (a.put d s.val) w) : wpList Tryd.prog ops Q (⟨d, Op.load 63 x, ty, ps, af, none⟩ :: rest) a w :=
  wpList_load_row rfl 63 x rfl g hx 63 s.cs.toArray (0, 0) _ hg Tryd.underlying63 rfl (stoN.trans (by simp [StV.cs_len hs])) h
theorem wp_storeT (g : Nat) (cur : List Value) (s : StV) (hs : s.p.ok) (hg : Blk w g 63 cur) (hl : cur.length = 274) (hx : a.eval x = .pointer (some ⟨g, 0, none⟩)) (hy : a.eval y = s.val)
    (h : ∀ w', Blk w' g 63 s.cs → w.grownBy w' (some g) → wpList Tryd.prog ops Q rest (a.put none undef) w') : wpList Tryd.prog ops Q (⟨none, Op.store 63 x y, ty, ps, af, none⟩ :: rest) a w :=
  wp_storeB g 63 cur s.cs hg (stoN.trans (by simp [StV.cs_len hs])) (by rw [hl, StV.cs_len hs]) s.one hx hy h
/-- the pager in a store -/
theorem wp_loadTP (g : Nat) (s : StV) (hs : s.p.ok) (hg : Blk w g 63 s.cs) (hx : a.eval x = .pointer (some ⟨g, 0, none⟩))
    (h : wpList Tryd.prog ops Q rest (a.put d s.p.v) w) : wpList Tryd.prog ops Q (⟨d, Op.load 37 x, ty, ps, af, none⟩ :: rest) a w :=
  wpList_load_mid rfl 37 x rfl g 0 hx _ _ (StV.rangeP hs hg) Tryd.underlying37 rfl (pgrN.trans (by rw [Pgr.cs_len hs])) h
theorem wp_storeTP (g : Nat) (s : StV) (p : Pgr) (hs : s.p.ok) (hp : p.ok) (hg : Blk w g 63 s.cs) (hx : a.eval x = .pointer (some ⟨g, 0, none⟩)) (hy : a.eval y = p.v)
    (h : ∀ w', Blk w' g 63 (StV.mk p s.v s.sec).cs → w.grownBy w' (some g) → wpList Tryd.prog ops Q rest (a.put none undef) w') : wpList Tryd.prog ops Q (⟨none, Op.store 37 x y, ty, ps, af, none⟩ :: rest) a w :=
  wp_storeO g 0 63 s.cs p.cs p.v hg rfl (pgrN.trans (by rw [Pgr.cs_len hp])) (by rw [Pgr.cs_len hp, StV.cs_len hs]; omega) p.one hx hy (fun w' h1 h2 => h w' (by rw [Pgr.cs_len hp, StV.setP hs] at h1; exact h1) h2)
/-- the reference's state in a store -/
theorem wp_loadTV (g : Nat) (s : StV) (hs : s.p.ok) (hg : Blk w g 63 s.cs) (hx : a.eval x = .pointer (some ⟨g, 266, none⟩))
    (h : wpList Tryd.prog ops Q rest (a.put d s.v.v) w) : wpList Tryd.prog ops Q (⟨d, Op.load 60 x, ty, ps, af, none⟩ :: rest) a w :=
  wpList_load_mid rfl 60 x rfl g 266 hx _ _ (StV.rangeV hs hg) Tryd.underlying60 rfl (rsN.trans rfl) h
theorem wp_storeTV (g : Nat) (s : StV) (v : RV) (hs : s.p.ok) (hg : Blk w g 63 s.cs) (hx : a.eval x = .pointer (some ⟨g, 266, none⟩)) (hy : a.eval y = v.v)
    (h : ∀ w', Blk w' g 63 (StV.mk s.p v s.sec).cs → w.grownBy w' (some g) → wpList Tryd.prog ops Q rest (a.put none undef) w') : wpList Tryd.prog ops Q (⟨none, Op.store 60 x y, ty, ps, af, none⟩ :: rest) a w :=
  wp_storeO g 266 63 s.cs v.cs v.v hg rfl (rsN.trans rfl) (by rw [StV.cs_len hs]; show 266 + 7 ≤ _; omega) (rv_one v) hx hy (fun w' h1 h2 => h w' (by rw [show v.cs.length = 7 from rfl, StV.setV hs] at h1; exact h1) h2)
theorem run_loadT (w : World) (g : Nat) (s : StV) (hs : s.p.ok) (hg : Blk w g 63 s.cs) : (loadVar 63 ⟨g, 0, none⟩).run Tryd.prog w = .ok s.val w :=
  run_loadVar_row w g 63 63 s.cs.toArray (0, 0) _ hg Tryd.underlying63 rfl (stoN.trans (by simp [StV.cs_len hs]))
theorem results_T2 {fn : Func} {i u : Tmp} (h : fn.results = #[.cell i 63, .tmp u]) (tmps : Array Value) (w : World) (g : Nat) (s : StV) (hs : s.p.ok) (hi : tmps.getD i undef = .pointer (some ⟨g, 0, none⟩)) (hg : Blk w g 63 s.cs) :
    (results fn tmps).run Tryd.prog w = .ok (.tuple #[s.val, tmps.getD u undef]) w := by
  rw [results_cell_tmp h, hi]
  simp [asAddr, run_loadT w g s hs hg, Result.andThen]
end
theorem fill_mid (pl : Nat → Option (Nat × Nat)) (pre xs ys post : List Value) (i : Nat) (v : Value) (rest : List (Nat × Value)) (hv : v.cells = xs.toArray) (hpl : pl i = some (pre.length, xs.length)) (hl : xs.length = ys.length) : Instr.fill pl (pre ++ ys ++ post).toArray ((i, v) :: rest) = Instr.fill pl (pre ++ xs ++ post).toArray rest := by
  rw [Instr.fill, hpl]
  dsimp only
  rw [hv, if_neg (by simp; omega)]
  congr 1
  obtain ⟨h1, h2⟩ := Great.foldl_set pre.length xs 0 (pre ++ ys ++ post).toArray
  have e : xs.toArray.zipIdx.foldl (fun cs (c, j) => cs.setIfInBounds (pre.length + j) c) (pre ++ ys ++ post).toArray = (xs.zipIdx 0).foldl (fun cs (x : Value × Nat) => cs.setIfInBounds (pre.length + x.2) x.1) (pre ++ ys ++ post).toArray := by simp
  rw [e]
  apply Array.ext_getElem?
  intro k
  rw [h2 k]
  simp only [List.size_toArray, List.length_append, List.getElem?_toArray]
  by_cases hk : k < pre.length
  · rw [if_neg (by omega), List.append_assoc, List.append_assoc, List.getElem?_append_left hk, List.getElem?_append_left hk]
  · by_cases hk2 : k < pre.length + xs.length
    · rw [if_pos (by omega), List.append_assoc pre xs, List.getElem?_append_right (by omega), List.getElem?_append_left (by omega)]
      rfl
    · rw [if_neg (by omega), List.getElem?_append_right (by simp; omega), List.getElem?_append_right (by simp; omega)]
      simp [hl]
theorem sto_places : (match Tryd.prog.underlying 63 with | some (.struct fs) => fs.toList.mapM (fun f => (Tryd.prog.info? f.type).map fun i => (f.offset, i.size)) | _ => none) = some [(0, 266), (266, 7), (273, 1)] := by kernel_rfl
theorem builtT (x : StV) (h : x.p.ok) : Tryd.prog.built 63 [(0, x.p.v), (1, x.v.v), (2, .int .i64 x.sec)] = some x.cs.toArray := by
  have hz := arrSto
  unfold ArrT at hz
  have hp := sto_places
  unfold Program.built
  cases hi : Tryd.prog.info? 63 with
  | none => simp [hi] at hz
  | some it =>
    simp only [hi, Option.map_some, Option.some.injEq, Prod.mk.injEq] at hz
    cases hu : Tryd.prog.underlying 63 with
    | none => rw [hu] at hp; cases hp
    | some d =>
      rw [hu] at hp
      cases d <;> try (cases hp; done)
      rename_i fs
      dsimp only at hp ⊢
      rw [hp, hz.1]
      dsimp only
      have e0 : (Value.agg StV.zero.cs.toArray).cells = ([] ++ Pgr.zero.cs ++ (RV.zero.cs ++ [Value.int .i64 0])).toArray := by
        show StV.zero.cs.toArray = _
        unfold StV.cs StV.zero
        simp
      rw [e0, fill_mid _ [] x.p.cs Pgr.zero.cs _ 0 x.p.v _ rfl (by rw [Pgr.cs_len h]; rfl) (by rw [Pgr.cs_len h, Pgr.cs_len Pgr.zero_ok])]
      rw [List.nil_append, ← List.append_assoc, fill_mid _ x.p.cs x.v.cs RV.zero.cs _ 1 x.v.v _ rfl (by rw [Pgr.cs_len h]; rfl) rfl]
      have := fill_mid ([((0 : Nat), (266 : Nat)), (266, 7), (273, 1)].toArray[·]?) (x.p.cs ++ x.v.cs) [Value.int .i64 x.sec] [Value.int .i64 0] [] 2 (.int .i64 x.sec) [] rfl (by rw [List.length_append, Pgr.cs_len h]; rfl) rfl
      rw [List.append_nil, List.append_nil] at this
      rw [this]
      rfl
section
variable {ops : Array Oper} {rest : List Oper} {Q : Exit → Act → World → Prop} {a : Act} {w : World} {ty : TypeId} {ps : String} {af : Array Edge} {d : Option Tmp} {x y z : Operand}
theorem wp_buildT (s : StV) (hs : s.p.ok) (hx : a.eval x = s.p.v) (hy : a.eval y = s.v.v) (hz : a.eval z = .int .i64 s.sec) (h : wpList Tryd.prog ops Q rest (a.put d s.val) w) : wpList Tryd.prog ops Q (⟨d, Op.build 63 #[(0, x), (1, y), (2, z)], ty, ps, af, none⟩ :: rest) a w := by
  have e : ∀ l : List (Nat × Value), l = [(0, s.p.v), (1, s.v.v), (2, .int .i64 s.sec)] → Tryd.prog.built 63 l = some s.cs.toArray := by
    rintro l rfl
    exact builtT s hs
  refine wpList_build rfl 63 _ rfl (by rw [e _ (by simp [hx, hy, hz])]; simp) ?_
  rw [e _ (by simp [hx, hy, hz])]
  exact h
end
end Go.Proofs.YtanglofabkbllaaDoor
