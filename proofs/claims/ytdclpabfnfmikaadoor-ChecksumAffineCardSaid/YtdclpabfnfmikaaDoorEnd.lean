/- The last step of each law: a call that returns true and turns nothing that was there meets the law's row. Conditions: those of each theorem. -/
import Derived.Test.YtdclpabfnfmikaaDoorMem
import Derived.Test.YtdclpabfnfmikaaDoorRows
import Derived.Deep.DeepHandedRow
import Derived.Lib.LaidTab
set_option linter.unusedSimpArgs false
set_option linter.unusedVariables false
namespace Go.Proofs.YtdclpabfnfmikaaDoor
open Go.ChangeShapes Go.WideShapes Go.ChangeAt Go.RowKit

theorem as8 {x : Int} (h : (Lit.int .u8 x).wf = true) : x = N8 (UInt8.ofNat x.toNat) := by
  have hx : 0 ≤ x ∧ x ≤ 255 := by simpa [Lit.wf, IntKind.min, IntKind.max, IntKind.signed, IntKind.bits] using h
  unfold N8
  rw [UInt8.toNat_ofNat']
  omega
theorem as32 {x : Int} (h : (Lit.int .u32 x).wf = true) : x = N32 (BitVec.ofNat 32 x.toNat) := by
  have hx : 0 ≤ x ∧ x ≤ 4294967295 := by simpa [Lit.wf, IntKind.min, IntKind.max, IntKind.signed, IntKind.bits] using h
  unfold N32
  rw [BitVec.toNat_ofNat]
  omega

section
variable {H : Type} {enc : TypeId × Value → H} {P : Program}
theorem spot_none {w : World} {a : Addr} {v : Value} (h : w.cell? a = some v) : a.spot = none := by
  unfold World.cell? at h
  split at h
  · split at h
    · cases h
    · rename_i hs; simpa using hs
  · cases h
theorem add_zero_spot (a : Addr) : a.add 0 = a := by simp [Addr.add]

/-- a byte string that came in -/
theorem open_bytes {W : World} {r : Reach} {b0 base : Nat} {sp : Nat → Bool} {held : Bool} {t e : TypeId} {v : Value} {d : DataW H} {p : List MemPlace}
    (ht : P.underlying t = some (.slice e)) (he : P.underlying e = some (.int .u8)) (hc : P.cellsOf e = 1)
    (hv : Value.okWide P W r b0 t v) (h : DataW.Trod enc P W base sp held t v d p) :
    ∃ (A : Option Addr) (n c : Nat) (l : List UInt8), v = .slice A n c ∧ RB W A n l ∧ n ≤ c ∧ c ≤ 9223372036854775807 := by
  obtain ⟨a0, len, cap, rfl⟩ := okWide_slice ht hv
  obtain ⟨fuel, hf⟩ := h
  rcases open_ints ht he hc hf with ⟨hcs, hx⟩ | ⟨a, len', cap', zs, hcs, _, hl, hm, hz, hx, hcell, hwz⟩
  · simp [Value.cells] at hcs
    obtain ⟨rfl, rfl, rfl⟩ := hcs
    exact ⟨_, _, _, [], rfl, RB.nil _ _, Nat.le_refl _, by omega⟩
  · simp [Value.cells] at hcs
    obtain ⟨rfl, rfl, rfl⟩ := hcs
    have hzl : len ≤ zs.length := by rw [hz]; split <;> omega
    refine ⟨_, _, _, (zs.take len).map fun x => UInt8.ofNat x.toNat, rfl, ⟨by simp; omega, fun hn => ?_⟩, hl, by simp [maxLen] at hm; omega⟩
    have h0 := hcell 0 (by omega)
    have hs : a.spot = none := by
      have := spot_none h0
      rwa [add_zero_spot] at this
    have ha : a = ⟨a.block, a.off, none⟩ := by cases a; simp_all
    have hlt : a.block < W.heap.size := by
      have := World.block_lt_of_cell? W _ h0
      rwa [add_zero_spot] at this
    refine ⟨a.block, a.off, by rw [← ha], hlt, fun j u hu => ?_⟩
    have hj : j < len := by
      have := (List.getElem?_eq_some_iff.1 hu).1
      simp at this
      omega
    have hj' : j < zs.length := by omega
    have hcj := hcell j hj'
    rw [ha, add_spot] at hcj
    rw [hcj]
    have hw := hwz (zs[j]) (List.getElem_mem hj')
    have e1 : zs.getD j 0 = zs[j] := by simp [List.getD, hj']
    rw [e1]
    have hu' : u = byV (UInt8.ofNat (zs[j]).toNat) := by
      simp only [List.map_map] at hu
      rw [List.getElem?_map, List.getElem?_take, if_pos hj, List.getElem?_eq_getElem hj'] at hu
      simp at hu
      exact hu.symm
    rw [hu']
    unfold byV
    rw [← as8 hw]

/-- an array of three numbers that came in by value -/
theorem open_u32x3 {W : World} {r : Reach} {b0 base : Nat} {sp : Nat → Bool} {held : Bool} {t e : TypeId} {v : Value} {d : DataW H} {p : List MemPlace}
    (ht : P.underlying t = some (.array 3 e)) (he : P.underlying e = some (.int .u32)) (hc : P.cellsOf e = 1) (hc3 : P.cellsOf t = 3)
    (hv : Value.okWide P W r b0 t v) (h : DataW.Trod enc P W base sp held t v d p) :
    ∃ a b c : BitVec 32, v = .agg #[.int .u32 (N32 a), .int .u32 (N32 b), .int .u32 (N32 c)] := by
  simp only [Value.okWide, ht] at hv
  obtain ⟨cs, rfl, h2, _⟩ := hv
  obtain ⟨l⟩ := cs
  rw [hc3] at h2
  match l, h2 with
  | [c0, c1, c2], _ =>
    obtain ⟨fuel, hf⟩ := h
    obtain ⟨y0, y1, y2, n, _, h0, h1, h2⟩ := trod_array3 ht hc (by simpa [Value.cells] using hf)
    obtain ⟨x0, e0, _, w0⟩ := DataW.trod_int he h0
    obtain ⟨x1, e1, _, w1⟩ := DataW.trod_int he h1
    obtain ⟨x2, e2, _, w2⟩ := DataW.trod_int he h2
    simp at e0 e1 e2
    subst e0 e1 e2
    exact ⟨BitVec.ofNat 32 x0.toNat, BitVec.ofNat 32 x1.toNat, BitVec.ofNat 32 x2.toNat, by rw [← as32 w0, ← as32 w1, ← as32 w2]⟩

theorem args_kept (hl : laidOutB P = true) {W W' : World} {sp : Nat → Bool} (hb : Below W.heap.size W W') :
    ∀ (ts : List TypeId) (vs : List Value) (ds : List (DataW H)) (ps : List MemPlace), (∀ t ∈ ts, P.readableRec t = true ∧ t < P.types.size) → (∀ p ∈ ps, p.block < W.heap.size) → (∀ p ∈ ps, sp p.block = true) →
      DataW.TrodAll enc P W 0 (fun _ => true) true ts vs ds ps → DataW.TrodAll enc P W' 0 sp true ts vs ds ps
  | [], [], [], ps, _, _, _, h => h
  | t :: ts, v :: vs, d :: ds, ps, hr, hlt, hsp, h => by
    obtain ⟨p, q, h1, h2, rfl⟩ := h
    refine ⟨p, q, ?_, args_kept hl hb ts vs ds q (fun t ht => hr t (List.mem_cons_of_mem _ ht)) (fun x hx => hlt x (by simp [hx])) (fun x hx => hsp x (by simp [hx])) h2, rfl⟩
    obtain ⟨r1, r2⟩ := hr t (by simp)
    exact WideElems.Trod_stays hl r1 r2 h1 (fun x hx => hb.same (hlt x (by simp [hx]))) (fun x hx => hsp x (by simp [hx]))
  | [], [], _ :: _, _, _, _, _, h => h.elim
  | [], _ :: _, _, _, _, _, _, h => by cases h
  | _ :: _, [], _, _, _, _, _, h => by cases h
  | _ :: _, _ :: _, [], _, _, _, _, h => by cases h

theorem law_post {f : Func} {s : ChangeSpec} {W W' : World} {args : Array Value} {ds gs : List (DataW H)} {before : List MemPlace} {tb : TypeId}
    (hl : laidOutB P = true) (hrd : ∀ t ∈ f.params.toList, P.readableRec t = true ∧ t < P.types.size) (hvars : s.vars = []) (hres : f.resultTypes = #[tb]) (htb : P.underlying tb = some .bool)
    (hspec : s.fn H (ds ++ gs) = { results := [.lit (.bool true)], args := ds })
    (hW : DataW.Whole enc P f.params.toList s.vars false W args.toList ds gs before) (hb : Below W.heap.size W W') :
    s.post enc P f false true false false W args (.bool true) W' := by
  have hlt : ∀ p ∈ before, p.block < W.heap.size := fun p hp => hW.lt p hp
  have hW0 := hW
  obtain ⟨p, q, hA, hV, hpq, hfz, _⟩ := hW
  rw [hvars] at hV
  obtain ⟨hg, hq⟩ := trodVars_none hV
  subst hq
  subst hpq
  have hrs : (Value.bool true).resultList f.resultTypes.size = [.bool true] := by rw [hres]; rfl
  have hA' : ∀ sp : Nat → Bool, (∀ x ∈ p ++ [], sp x.block = true) → DataW.TrodAll enc P W' 0 sp true f.params.toList args.toList (s.fn H (ds ++ gs)).args p := by
    intro sp hsp
    rw [hspec]
    exact args_kept hl hb _ _ _ _ hrd (fun x hx => hlt x (by simp [hx])) (fun x hx => hsp x (by simp [hx])) hA
  have hV' : ∀ sp : Nat → Bool, DataW.TrodVars enc P W' sp s.vars (s.fn H (ds ++ gs)).vars [] := by
    intro sp
    rw [hspec, hvars]
    exact rfl
  have hR : ∀ (b : Nat) (sp : Nat → Bool) (hd : Bool), DataW.TrodAll enc P W' b sp hd f.resultTypes.toList ((Value.bool true).resultList f.resultTypes.size) (s.fn H (ds ++ gs)).results [] := by
    intro b sp hd
    rw [hspec, hrs, hres]
    exact trodAll_cons_mk (shut_bool htb _) trodAll_mk0
  refine ⟨ds, gs, p ++ [], [], p, [], hW0, hR _ _ _, hA' _ (fun x hx => by simpa using hlt x hx), hV' _, World.keptBut_mono (fun x hx => ⟨hx, ?_⟩) (hb.frame (· ∈ p ++ [])), fun h => by cases h⟩
  simpa using hx
end
end Go.Proofs.YtdclpabfnfmikaaDoor
