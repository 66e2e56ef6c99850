/- The last step of each law: a call that returns true and turns nothing that was there meets the law's row. Conditions: those of each theorem. -/
import Derived.Test.YtlokfndonjldpaaDoorMem
import Derived.Test.YtlokfndonjldpaaDoorRows
import Derived.Deep.DeepHandedRow
import Derived.Lib.LaidTab
import Derived.Deep.Slices
set_option linter.unusedSimpArgs false
set_option linter.unusedVariables false
namespace Go.Proofs.YtlokfndonjldpaaDoor
open Go.ChangeShapes Go.WideShapes Go.ChangeAt Go.RowKit

theorem as8 {x : Int} (h : (Lit.int .u8 x).wf = true) : x = N8 (UInt8.ofNat x.toNat) := by
  have hx : 0 ≤ x ∧ x ≤ 255 := by simpa [Lit.wf, IntKind.min, IntKind.max, IntKind.signed, IntKind.bits] using h
  unfold N8
  rw [UInt8.toNat_ofNat']
  omega
theorem as32 {x : Int} (h : (Lit.int .u32 x).wf = true) : x = N32 (BitVec.ofNat 32 x.toNat) := by
  have hx : 0 ≤ x ∧ x ≤ 4294967295 := by simpa [Lit.wf, IntKind.min, IntKind.max, IntKind.signed, IntKind.bits] using h
  unfold N32
  rw [BitVec.toNat_ofNat]
  omega

section
variable {H : Type} {enc : TypeId × Value → H} {P : Program}
theorem spot_none {w : World} {a : Addr} {v : Value} (h : w.cell? a = some v) : a.spot = none := by
  unfold World.cell? at h
  split at h
  · split at h
    · cases h
    · rename_i hs; simpa using hs
  · cases h
theorem add_zero_spot (a : Addr) : a.add 0 = a := by simp [Addr.add]

theorem ints_RB {W : World} {sp : Nat → Bool} {a a' : Addr} {len cap len' cap' : Nat} {zs : List Int} (hcs : [Value.slice (some a) len cap] = [.slice (some a') len' cap']) (hl : len' ≤ cap') (hm : cap' ≤ maxLen)
    (hz : zs.length = (if sp a'.block then cap' else len')) (hcell : ∀ i, i < zs.length → W.cell? (a'.add i) = some (.int .u8 (zs.getD i 0))) (hwz : ∀ n ∈ zs, (Lit.int .u8 n).wf = true) :
    RB W (some a) len ((zs.take len).map fun x => UInt8.ofNat x.toNat) ∧ len ≤ cap ∧ cap ≤ 9223372036854775807 := by
  simp at hcs
  obtain ⟨rfl, rfl, rfl⟩ := hcs
  have hzl : len ≤ zs.length := by rw [hz]; split <;> omega
  refine ⟨⟨by simp; omega, fun hn => ?_⟩, hl, by simp [maxLen] at hm; omega⟩
  have h0 := hcell 0 (by omega)
  have hs : a.spot = none := by
    have := spot_none h0
    rwa [add_zero_spot] at this
  have ha : a = ⟨a.block, a.off, none⟩ := by cases a; simp_all
  have hlt : a.block < W.heap.size := by
    have := World.block_lt_of_cell? W _ h0
    rwa [add_zero_spot] at this
  refine ⟨a.block, a.off, by rw [← ha], hlt, fun j u hu => ?_⟩
  have hj : j < len := by
    have := (List.getElem?_eq_some_iff.1 hu).1
    simp at this
    omega
  have hj' : j < zs.length := by omega
  have hcj := hcell j hj'
  rw [ha, add_spot] at hcj
  rw [hcj]
  have hw := hwz (zs[j]) (List.getElem_mem hj')
  have e1 : zs.getD j 0 = zs[j] := by simp [List.getD, hj']
  rw [e1]
  have hu' : u = byV (UInt8.ofNat (zs[j]).toNat) := by
    simp only [List.map_map] at hu
    rw [List.getElem?_map, List.getElem?_take, if_pos hj, List.getElem?_eq_getElem hj'] at hu
    simp at hu
    exact hu.symm
  rw [hu']
  unfold byV
  rw [← as8 hw]

/-- a byte string that came in -/
theorem open_bytes {W : World} {r : Reach} {b0 base : Nat} {sp : Nat → Bool} {held : Bool} {t e : TypeId} {v : Value} {d : DataW H} {p : List MemPlace}
    (ht : P.underlying t = some (.slice e)) (he : P.underlying e = some (.int .u8)) (hc : P.cellsOf e = 1)
    (hv : Value.okWide P W r b0 t v) (h : DataW.Trod enc P W base sp held t v d p) :
    ∃ (A : Option Addr) (n c : Nat) (l : List UInt8), v = .slice A n c ∧ RB W A n l ∧ n ≤ c ∧ c ≤ 9223372036854775807 := by
  obtain ⟨a0, len, cap, rfl⟩ := okWide_slice ht hv
  obtain ⟨fuel, hf⟩ := h
  rcases open_ints ht he hc hf with ⟨hcs, hx⟩ | ⟨a, len', cap', zs, hcs, _, hl, hm, hz, hx, hcell, hwz⟩
  · simp [Value.cells] at hcs
    obtain ⟨rfl, rfl, rfl⟩ := hcs
    exact ⟨_, _, _, [], rfl, RB.nil _ _, Nat.le_refl _, by omega⟩
  · have hcs' : [Value.slice a0 len cap] = [.slice (some a) len' cap'] := by simpa [Value.cells] using hcs
    have h0 : a0 = some a := by simp at hcs'; exact hcs'.1
    subst h0
    exact ⟨_, _, _, _, rfl, ints_RB hcs' hl hm hz hcell hwz⟩

/-- a slice whose elements read each as an x that meets φ -/
theorem open_list {α : Type} (size : Nat) (hs : 0 < size) (f : α → List Value) (hf : ∀ x, (f x).length = size) (φ : α → Prop) {W : World} {r : Reach} {b0 base : Nat} {sp : Nat → Bool} {held : Bool} {t e : TypeId} {v : Value} {d : DataW H} {p : List MemPlace}
    (ht : P.underlying t = some (.slice e)) (hc : P.cellsOf e = size)
    (hel : ∀ n cs y, cs.length = size → DataW.trod enc P W base sp held n e cs = some y → ∃ x, cs = f x ∧ φ x)
    (hv : Value.okWide P W r b0 t v) (h : DataW.Trod enc P W base sp held t v d p) :
    ∃ (A : Option Addr) (n c : Nat) (X : List α), v = .slice A n c ∧ X.length = n ∧ RL W size A n (X.flatMap f) ∧ (∀ x ∈ X, φ x) ∧ n ≤ c ∧ c ≤ 9223372036854775807 := by
  obtain ⟨a0, len, cap, rfl⟩ := okWide_slice ht hv
  obtain ⟨fuel, hfu⟩ := h
  rcases Deep.open_slice ht hfu with ⟨hcs, hx⟩ | ⟨a, len', cap', m, k, D, Pl, hcs, _, hl, hm, hmm, hx, hi⟩
  · simp [Value.cells] at hcs
    obtain ⟨rfl, rfl, rfl⟩ := hcs
    exact ⟨_, _, _, [], rfl, rfl, RL.nil _ _ _, (fun _ h => by cases h), Nat.le_refl _, by omega⟩
  · simp [Value.cells] at hcs
    obtain ⟨rfl, rfl, rfl⟩ := hcs
    have hlm : len ≤ m := by rw [hmm]; split <;> omega
    rw [hc] at hi
    have key : ∀ i, i < len → ∃ x : α, φ x ∧ ∀ r, r < size → W.cell? ((a.add (i * size)).add r) = (f x)[r]? := by
      intro i hil
      obtain ⟨cs', h1, h2⟩ := hi i (by omega)
      obtain ⟨_, hcl, hat⟩ := World.cells?_some h1
      obtain ⟨x, rfl, hφ⟩ := hel _ _ _ hcl h2
      exact ⟨x, hφ, hat⟩
    have pick : ∃ X : List α, X.length = len ∧ ∀ i x, X[i]? = some x → φ x ∧ ∀ r, r < size → W.cell? ((a.add (i * size)).add r) = (f x)[r]? := by
      clear hi hx hfu hv hl hm hmm hlm
      induction len with
      | zero => exact ⟨[], rfl, fun i x h => by simp at h⟩
      | succ len ih =>
        obtain ⟨X, hX, hall⟩ := ih (fun i h => key i (by omega))
        obtain ⟨x, hφ, hx⟩ := key len (by omega)
        refine ⟨X ++ [x], by simp [hX], fun i y hy => ?_⟩
        rcases Nat.lt_or_ge i X.length with h | h
        · rw [List.getElem?_append_left h] at hy
          exact hall i y hy
        · have hi : i < (X ++ [x]).length := (List.getElem?_eq_some_iff.1 hy).1
          simp at hi
          obtain rfl : i = len := by omega
          rw [List.getElem?_append_right h, hX, Nat.sub_self] at hy
          simp at hy
          subst hy
          exact ⟨hφ, hx⟩
    obtain ⟨X, hX, hall⟩ := pick
    refine ⟨_, _, _, X, rfl, hX, ⟨by rw [flat_length f size hf, hX], fun hn => ?_⟩, ?_, hl, by simp [maxLen] at hm; omega⟩
    · have hx0 : X[0]? = some (X[0]'(by omega)) := List.getElem?_eq_getElem _
      have h0 := (hall 0 _ hx0).2 0 hs
      rw [List.getElem?_eq_getElem (by rw [hf]; exact hs), Nat.zero_mul, add_zero_spot, add_zero_spot] at h0
      have hsp := spot_none h0
      have ha : a = ⟨a.block, a.off, none⟩ := by cases a; simp_all
      refine ⟨a.block, a.off, by rw [← ha], World.block_lt_of_cell? W _ h0, fun j u hu => ?_⟩
      have hj : j < len * size := by
        have := (List.getElem?_eq_some_iff.1 hu).1
        rw [flat_length f size hf, hX] at this
        exact this
      have hq : j / size < len := Nat.div_lt_of_lt_mul (by rw [Nat.mul_comm]; exact hj)
      have hr : j % size < size := Nat.mod_lt _ hs
      have hjj : j / size * size + j % size = j := by rw [Nat.mul_comm]; exact Nat.div_add_mod j size
      have hxq : X[j / size]? = some (X[j / size]'(by omega)) := List.getElem?_eq_getElem _
      rw [← hjj, flat_at f size hf X _ _ hr, hxq] at hu
      have := (hall _ _ hxq).2 _ hr
      rw [Deep.add_add, hjj, ha, add_spot] at this
      rw [this]
      exact hu
    · intro x hx
      obtain ⟨i, hi⟩ := List.getElem?_of_mem hx
      exact (hall i x hi).1

/-- the same in one cell of other data -/
theorem list_cell {α : Type} (size : Nat) (hs : 0 < size) (f : α → List Value) (hf : ∀ x, (f x).length = size) (φ : α → Prop) {W : World} {base : Nat} {sp : Nat → Bool} {held : Bool} {t e : TypeId} {fuel : Nat} {cs0 : List Value} {y0 : DataW H × List MemPlace}
    (ht : P.underlying t = some (.slice e)) (hc : P.cellsOf e = size)
    (hel : ∀ n cs y, cs.length = size → DataW.trod enc P W base sp held n e cs = some y → ∃ x, cs = f x ∧ φ x)
    (hfu : DataW.trod enc P W base sp held fuel t cs0 = some y0) :
    ∃ (A : Option Addr) (n c : Nat) (X : List α), cs0 = [.slice A n c] ∧ X.length = n ∧ RL W size A n (X.flatMap f) ∧ (∀ x ∈ X, φ x) ∧ n ≤ c ∧ c ≤ 9223372036854775807 := by
  obtain ⟨a0, len, cap, rfl⟩ : ∃ a0 len cap, cs0 = [.slice a0 len cap] := by
    rcases DataW.trod_slice ht hfu with ⟨hcs, _⟩ | ⟨a, len, cap, _, _, _, _, hcs, _⟩
    · exact ⟨_, _, _, hcs⟩
    · exact ⟨_, _, _, hcs⟩
  rcases Deep.open_slice ht hfu with ⟨hcs, hx⟩ | ⟨a, len', cap', m, k, D, Pl, hcs, _, hl, hm, hmm, hx, hi⟩
  · simp [Value.cells] at hcs
    obtain ⟨rfl, rfl, rfl⟩ := hcs
    exact ⟨_, _, _, [], rfl, rfl, RL.nil _ _ _, (fun _ h => by cases h), Nat.le_refl _, by omega⟩
  · simp [Value.cells] at hcs
    obtain ⟨rfl, rfl, rfl⟩ := hcs
    have hlm : len ≤ m := by rw [hmm]; split <;> omega
    rw [hc] at hi
    have key : ∀ i, i < len → ∃ x : α, φ x ∧ ∀ r, r < size → W.cell? ((a.add (i * size)).add r) = (f x)[r]? := by
      intro i hil
      obtain ⟨cs', h1, h2⟩ := hi i (by omega)
      obtain ⟨_, hcl, hat⟩ := World.cells?_some h1
      obtain ⟨x, rfl, hφ⟩ := hel _ _ _ hcl h2
      exact ⟨x, hφ, hat⟩
    have pick : ∃ X : List α, X.length = len ∧ ∀ i x, X[i]? = some x → φ x ∧ ∀ r, r < size → W.cell? ((a.add (i * size)).add r) = (f x)[r]? := by
      clear hi hx hfu hl hm hmm hlm
      induction len with
      | zero => exact ⟨[], rfl, fun i x h => by simp at h⟩
      | succ len ih =>
        obtain ⟨X, hX, hall⟩ := ih (fun i h => key i (by omega))
        obtain ⟨x, hφ, hx⟩ := key len (by omega)
        refine ⟨X ++ [x], by simp [hX], fun i y hy => ?_⟩
        rcases Nat.lt_or_ge i X.length with h | h
        · rw [List.getElem?_append_left h] at hy
          exact hall i y hy
        · have hi : i < (X ++ [x]).length := (List.getElem?_eq_some_iff.1 hy).1
          simp at hi
          obtain rfl : i = len := by omega
          rw [List.getElem?_append_right h, hX, Nat.sub_self] at hy
          simp at hy
          subst hy
          exact ⟨hφ, hx⟩
    obtain ⟨X, hX, hall⟩ := pick
    refine ⟨_, _, _, X, rfl, hX, ⟨by rw [flat_length f size hf, hX], fun hn => ?_⟩, ?_, hl, by simp [maxLen] at hm; omega⟩
    · have hx0 : X[0]? = some (X[0]'(by omega)) := List.getElem?_eq_getElem _
      have h0 := (hall 0 _ hx0).2 0 hs
      rw [List.getElem?_eq_getElem (by rw [hf]; exact hs), Nat.zero_mul, add_zero_spot, add_zero_spot] at h0
      have hsp := spot_none h0
      have ha : a = ⟨a.block, a.off, none⟩ := by cases a; simp_all
      refine ⟨a.block, a.off, by rw [← ha], World.block_lt_of_cell? W _ h0, fun j u hu => ?_⟩
      have hj : j < len * size := by
        have := (List.getElem?_eq_some_iff.1 hu).1
        rw [flat_length f size hf, hX] at this
        exact this
      have hq : j / size < len := Nat.div_lt_of_lt_mul (by rw [Nat.mul_comm]; exact hj)
      have hr : j % size < size := Nat.mod_lt _ hs
      have hjj : j / size * size + j % size = j := by rw [Nat.mul_comm]; exact Nat.div_add_mod j size
      have hxq : X[j / size]? = some (X[j / size]'(by omega)) := List.getElem?_eq_getElem _
      rw [← hjj, flat_at f size hf X _ _ hr, hxq] at hu
      have := (hall _ _ hxq).2 _ hr
      rw [Deep.add_add, hjj, ha, add_spot] at this
      rw [this]
      exact hu
    · intro x hx
      obtain ⟨i, hi⟩ := List.getElem?_of_mem hx
      exact (hall i x hi).1

/-- a byte string in one cell -/
theorem bytes_cell {W : World} {base : Nat} {sp : Nat → Bool} {held : Bool} {t e : TypeId} {k : Nat} {cs : List Value} {y : DataW H × List MemPlace}
    (ht : P.underlying t = some (.slice e)) (he : P.underlying e = some (.int .u8)) (hc : P.cellsOf e = 1)
    (h : DataW.trod enc P W base sp held k t cs = some y) :
    ∃ (A : Option Addr) (n c : Nat) (l : List UInt8), cs = [.slice A n c] ∧ RB W A n l ∧ n ≤ c ∧ c ≤ 9223372036854775807 := by
  rcases DataW.trod_slice ht h with ⟨hcs, _⟩ | ⟨a, len, cap, _, _, _, _, hcs, _⟩
  · subst hcs
    exact ⟨_, _, _, [], rfl, RB.nil _ _, Nat.le_refl _, by omega⟩
  · subst hcs
    rcases open_ints ht he hc h with ⟨hcs, hx⟩ | ⟨a', len', cap', zs, hcs, _, hl, hm, hz, hx, hcell, hwz⟩
    · simp at hcs
    · exact ⟨_, _, _, _, rfl, ints_RB hcs hl hm hz hcell hwz⟩

/-- an array of three numbers that came in by value -/
theorem open_u32x3 {W : World} {r : Reach} {b0 base : Nat} {sp : Nat → Bool} {held : Bool} {t e : TypeId} {v : Value} {d : DataW H} {p : List MemPlace}
    (ht : P.underlying t = some (.array 3 e)) (he : P.underlying e = some (.int .u32)) (hc : P.cellsOf e = 1) (hc3 : P.cellsOf t = 3)
    (hv : Value.okWide P W r b0 t v) (h : DataW.Trod enc P W base sp held t v d p) :
    ∃ a b c : BitVec 32, v = .agg #[.int .u32 (N32 a), .int .u32 (N32 b), .int .u32 (N32 c)] := by
  simp only [Value.okWide, ht] at hv
  obtain ⟨cs, rfl, h2, _⟩ := hv
  obtain ⟨l⟩ := cs
  rw [hc3] at h2
  match l, h2 with
  | [c0, c1, c2], _ =>
    obtain ⟨fuel, hf⟩ := h
    obtain ⟨y0, y1, y2, n, _, h0, h1, h2⟩ := trod_array3 ht hc (by simpa [Value.cells] using hf)
    obtain ⟨x0, e0, _, w0⟩ := DataW.trod_int he h0
    obtain ⟨x1, e1, _, w1⟩ := DataW.trod_int he h1
    obtain ⟨x2, e2, _, w2⟩ := DataW.trod_int he h2
    simp at e0 e1 e2
    subst e0 e1 e2
    exact ⟨BitVec.ofNat 32 x0.toNat, BitVec.ofNat 32 x1.toNat, BitVec.ofNat 32 x2.toNat, by rw [← as32 w0, ← as32 w1, ← as32 w2]⟩

theorem args_kept (hl : laidOutB P = true) {W W' : World} {sp : Nat → Bool} (hb : Below W.heap.size W W') :
    ∀ (ts : List TypeId) (vs : List Value) (ds : List (DataW H)) (ps : List MemPlace), (∀ t ∈ ts, P.readableRec t = true ∧ t < P.types.size) → (∀ p ∈ ps, p.block < W.heap.size) → (∀ p ∈ ps, sp p.block = true) →
      DataW.TrodAll enc P W 0 (fun _ => true) true ts vs ds ps → DataW.TrodAll enc P W' 0 sp true ts vs ds ps
  | [], [], [], ps, _, _, _, h => h
  | t :: ts, v :: vs, d :: ds, ps, hr, hlt, hsp, h => by
    obtain ⟨p, q, h1, h2, rfl⟩ := h
    refine ⟨p, q, ?_, args_kept hl hb ts vs ds q (fun t ht => hr t (List.mem_cons_of_mem _ ht)) (fun x hx => hlt x (by simp [hx])) (fun x hx => hsp x (by simp [hx])) h2, rfl⟩
    obtain ⟨r1, r2⟩ := hr t (by simp)
    exact WideElems.Trod_stays hl r1 r2 h1 (fun x hx => hb.same (hlt x (by simp [hx]))) (fun x hx => hsp x (by simp [hx]))
  | [], [], _ :: _, _, _, _, _, h => h.elim
  | [], _ :: _, _, _, _, _, _, h => by cases h
  | _ :: _, [], _, _, _, _, _, h => by cases h
  | _ :: _, _ :: _, [], _, _, _, _, h => by cases h

theorem law_post {f : Func} {s : ChangeSpec} {W W' : World} {args : Array Value} {ds gs : List (DataW H)} {before : List MemPlace} {tb : TypeId}
    (hl : laidOutB P = true) (hrd : ∀ t ∈ f.params.toList, P.readableRec t = true ∧ t < P.types.size) (hvars : s.vars = []) (hres : f.resultTypes = #[tb]) (htb : P.underlying tb = some .bool)
    (hspec : s.fn H (ds ++ gs) = { results := [.lit (.bool true)], args := ds })
    (hW : DataW.Whole enc P f.params.toList s.vars false W args.toList ds gs before) (hb : Below W.heap.size W W') :
    s.post enc P f false true false false W args (.bool true) W' := by
  have hlt : ∀ p ∈ before, p.block < W.heap.size := fun p hp => hW.lt p hp
  have hW0 := hW
  obtain ⟨p, q, hA, hV, hpq, hfz, _⟩ := hW
  rw [hvars] at hV
  obtain ⟨hg, hq⟩ := trodVars_none hV
  subst hq
  subst hpq
  have hrs : (Value.bool true).resultList f.resultTypes.size = [.bool true] := by rw [hres]; rfl
  have hA' : ∀ sp : Nat → Bool, (∀ x ∈ p ++ [], sp x.block = true) → DataW.TrodAll enc P W' 0 sp true f.params.toList args.toList (s.fn H (ds ++ gs)).args p := by
    intro sp hsp
    rw [hspec]
    exact args_kept hl hb _ _ _ _ hrd (fun x hx => hlt x (by simp [hx])) (fun x hx => hsp x (by simp [hx])) hA
  have hV' : ∀ sp : Nat → Bool, DataW.TrodVars enc P W' sp s.vars (s.fn H (ds ++ gs)).vars [] := by
    intro sp
    rw [hspec, hvars]
    exact rfl
  have hR : ∀ (b : Nat) (sp : Nat → Bool) (hd : Bool), DataW.TrodAll enc P W' b sp hd f.resultTypes.toList ((Value.bool true).resultList f.resultTypes.size) (s.fn H (ds ++ gs)).results [] := by
    intro b sp hd
    rw [hspec, hrs, hres]
    exact trodAll_cons_mk (shut_bool htb _) trodAll_mk0
  refine ⟨ds, gs, p ++ [], [], p, [], hW0, hR _ _ _, hA' _ (fun x hx => by simpa using hlt x hx), hV' _, World.keptBut_mono (fun x hx => ⟨hx, ?_⟩) (hb.frame (· ∈ p ++ [])), fun h => by cases h⟩
  simpa using hx
end
end Go.Proofs.YtlokfndonjldpaaDoor
