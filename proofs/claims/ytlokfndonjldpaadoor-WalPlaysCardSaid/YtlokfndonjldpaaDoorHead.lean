/- A region that draws its order: all operations ahead of number n only let memory grow (reads, calls, variables made), the rest is a forced tail; extracts that the tail does not wait for float. What each operation leaves is said once, as a fact that outlives growth; then the tail is walked once. Conditions: those of each theorem. -/
import Derived.Test.YtlokfndonjldpaaDoorFree
import Derived.Deep.RegionHeld3
set_option linter.unusedSimpArgs false
set_option linter.unusedVariables false
namespace Go.Proofs.YtlokfndonjldpaaDoor
open Go.RowKit

/-- behind an operation of the head -/
def AftH (V : Value → World → Prop) (o : Oper) (a : Act) (w : World) (e : Exit) (a' : Act) (w' : World) : Prop :=
  e = .normal ∧ ∃ u, a' = a.put o.dst u ∧ Below w.heap.size w w' ∧ V u w'

def isExtract (o : Oper) : Bool := (match o.op with | .extract _ _ => true | _ => false) && o.guard.isNone
/-- number k is done before number n is ready -/
def sunkB (l : List Oper) (n : Nat) : Nat → Nat → Bool
  | 0, _ => false
  | f + 1, k => Region.waitsFor .any l.toArray n k || (List.range n).any fun j => Region.waitsFor .any l.toArray j k && sunkB l n f j
def slotOf (l : List Oper) (k : Nat) : Nat := ((l[k]?).bind (·.dst)).getD 0
/-- the shape: heads name slots of ds once, wait for earlier ones alone; what floats is an extract apart from all that may come behind it -/
def headXB (l : List Oper) (ds : List Nat) (fl ex : List Nat) (n N : Nat) : Bool :=
  decide (n ≤ l.length) && Region.noSelect l.toArray && Region.chainB .any l.toArray n &&
  ((List.range n).all fun k => match l[k]? with
    | none => false
    | some o => o.after.all (fun e => !Region.binds .any e || decide (e.on < k)) &&
      (match o.dst with
        | none => false
        | some d => ds.contains d && decide (d < N) && (List.range n).all (fun j => j == k || (match l[j]? with | some o' => o'.dst != some d | none => true))) &&
      (if fl.contains k then decide (n < l.length) && (ex.contains k || isExtract o) && (List.range l.length).all (fun j => decide (j ≤ k) || !(decide (n ≤ j) || fl.contains j) || (match l[j]? with | some oj => oj.after.any (fun e => Region.binds .any e && e.on == k) || o.apart l.toArray oj | none => true))
        else decide (n = l.length) || sunkB l n l.length k)) &&
  Region.seqB .any l.toArray (l.length - n) n ((List.range l.length).map (fun k => decide (k < n))).toArray

def headB (l : List Oper) (ds : List Nat) (fl : List Nat) (n N : Nat) : Bool := headXB l ds fl [] n N
theorem leaves_wp {P : Program} {o : Oper} {a : Act} {w : World} {ops : Array Oper} {V : Value → World → Prop} {K : Act → World → Prop} {Q : Exit → Act → World → Prop} (h : wpList P ops (AftH V o a w) [o] a w) (hK : ∀ u w', Below w.heap.size w w' → V u w' → K (a.put o.dst u) w') (i : Nat) (ho : ops[i]? = some o) :
    wpOp P ops Q i K a w := by
  unfold wpOp
  rw [ho]
  unfold wpList at h
  by_cases hw : Region.wanted o (yielded ops a.tmps) = true
  · simp only [hw, if_true] at h ⊢
    refine .inl ?_
    rcases h with h | ⟨_, a2, w2, h⟩
    · refine wp_leaves (fun e a2 w2 hne hh => absurd hh.1 hne) (fun a2 w2 hh => ?_) h
      obtain ⟨-, u, rfl, hb, hu⟩ := (show AftH V o a w .normal a2 w2 from hh)
      exact hK u w2 hb hu
    · exact absurd h.1 (by simp)
  · simp only [hw] at h ⊢
    obtain ⟨-, u, hu1, hb, hu⟩ := (show AftH V o a w .normal (a.put o.dst undef) w from h)
    rw [hu1]
    exact hK u w hb hu
theorem leaves_yields {P : Program} {o : Oper} {a : Act} {w : World} {ops : Array Oper} {V : Value → World → Prop} (hx : isExtract o = true) (h : wpList P ops (AftH V o a w) [o] a w) :
    ∃ v, Yields P ops o v a ∧ ∃ u, a.put o.dst u = a.put o.dst v ∧ ∃ w', Below w.heap.size w w' ∧ w' = w ∧ V u w' := by
  obtain ⟨dst, op, ty, ps, af, gd⟩ := o
  simp only [isExtract, Bool.and_eq_true, Option.isNone_iff_eq_none] at hx
  obtain ⟨hx, rfl⟩ := hx
  cases op <;> simp at hx
  rename_i t ix
  unfold wpList at h
  have hw : Region.wanted ⟨dst, .extract t ix, ty, ps, af, none⟩ (yielded ops a.tmps) = true := by simp [Region.wanted]
  simp only [hw, if_true] at h
  rcases h with h | ⟨_, a2, w2, h⟩
  · unfold Oper.wp at h
    unfold Yields
    cases hv : a.eval t with
    | tuple vs =>
      cases hq : vs[ix]? with
      | none =>
        simp [execOp, Instr.extract, hv, hq, Oper.upon] at h
      | some v =>
        simp only [execOp, Instr.extract, hv, hq] at h ⊢
        refine ⟨v, .inl ⟨hw, fun w => by simp⟩, ?_⟩
        simp [Oper.upon] at h
        obtain ⟨-, u, h1, h2, h3⟩ := (show AftH V _ a w .normal (a.put dst v) w from h)
        exact ⟨u, h1.symm, w, h2, rfl, h3⟩
    | _ => simp [execOp, Instr.extract, hv, Oper.upon] at h
  · exact absurd h.1 (by simp)

/-- plain values, and facts for the others -/
def hol (vs : List (Option Value)) (V : Nat → Value → World → Prop) (k : Nat) (u : Value) (w : World) : Prop :=
  match vs.getD k none with
  | some v => u = v
  | none => V k u w
theorem hol_val {vs : List (Option Value)} {V : Nat → Value → World → Prop} {k : Nat} {u v : Value} {w : World} (h : hol vs V k u w) (hv : vs.getD k none = some v) : u = v := by
  unfold hol at h
  rw [hv] at h
  exact h
theorem hol_mono {vs : List (Option Value)} {V : Nat → Value → World → Prop} (h : ∀ k u w1 w2, Below w1.heap.size w1 w2 → V k u w1 → V k u w2) : ∀ k u w1 w2, Below w1.heap.size w1 w2 → hol vs V k u w1 → hol vs V k u w2 := by
  intro k u w1 w2 hb hu
  unfold hol at *
  cases hv : vs.getD k none with
  | some v => rw [hv] at hu; exact hu
  | none => rw [hv] at hu; exact h k u w1 w2 hb hu
theorem hol_fact {vs : List (Option Value)} {V : Nat → Value → World → Prop} {k : Nat} {u : Value} {w : World} (h : hol vs V k u w) (hv : vs.getD k none = none) : V k u w := by
  unfold hol at h
  rw [hv] at h
  exact h
section
variable {P : Program} {Q : Exit → Act → World → Prop} {a : Act} {w : World} {l : List Oper}
structure HInv (l : List Oper) (n : Nat) (ds : List Nat) (V : Nat → Value → World → Prop) (a : Act) (w : World) (listed : Array Bool) (a' : Act) (w' : World) : Prop where
  size : listed.size = l.length
  tail : ∀ t, n ≤ t → t < l.length → listed.getD t false = false
  closed : ∀ (k : Nat) (o : Oper), l[k]? = some o → listed.getD k false = true → ∀ e ∈ o.after, Region.binds .any e = true → listed.getD e.on false = true
  bel : Below w.heap.size w w'
  f : ∃ f : Nat → Value, a' = putAll a ds f ∧ ∀ k, k < n → listed.getD k false = true → V k (f (slotOf l k)) w'

/-- what an operation may lean on: what it waits for (a structure: else the search for instances opens it at every step) -/
structure Deps (V : Nat → Value → World → Prop) (l : List Oper) (o : Oper) (f : Nat → Value) (w : World) : Prop where
  get : ∀ e ∈ o.after, Region.binds .any e = true → V e.on (f (slotOf l e.on)) w
structure Alls (V : Nat → Value → World → Prop) (l : List Oper) (n : Nat) (f : Nat → Value) (w : World) : Prop where
  get : ∀ k, k < n → V k (f (slotOf l k)) w
/-- each operation of the head takes its step -/
def HSteps (P : Program) (l : List Oper) (a : Act) (ds : List Nat) (V : Nat → Value → World → Prop) (w : World) : List Oper → Nat → Prop
  | [], _ => True
  | o :: r, k => (∀ (f : Nat → Value) (w' : World), Below w.heap.size w w' → Deps V l o f w' →
      wpList P l.toArray (AftH (V k) o (putAll a ds f) w') [o] (putAll a ds f) w') ∧ HSteps P l a ds V w r (k + 1)
theorem HSteps.nil {ds : List Nat} {V : Nat → Value → World → Prop} {k : Nat} : HSteps P l a ds V w [] k := trivial
theorem HSteps.cons {ds : List Nat} {V : Nat → Value → World → Prop} {k : Nat} {o : Oper} {r : List Oper} (h : ∀ (f : Nat → Value) (w' : World), Below w.heap.size w w' → Deps V l o f w' →
      wpList P l.toArray (AftH (V k) o (putAll a ds f) w') [o] (putAll a ds f) w') (h2 : HSteps P l a ds V w r (k + 1)) : HSteps P l a ds V w (o :: r) k := ⟨h, h2⟩
theorem HSteps.get {ds : List Nat} {V : Nat → Value → World → Prop} : ∀ {r : List Oper} {b : Nat}, HSteps P l a ds V w r b → ∀ k o, r[k]? = some o → ∀ (f : Nat → Value) (w' : World), Below w.heap.size w w' → Deps V l o f w' →
      wpList P l.toArray (AftH (V (b + k)) o (putAll a ds f) w') [o] (putAll a ds f) w'
  | [], _, _, _, _, hk => by simp at hk
  | o :: r, b, h, 0, _, hk => by
    rw [List.getElem?_cons_zero] at hk
    cases hk
    exact h.1
  | o :: r, b, h, k + 1, _, hk => by
    rw [List.getElem?_cons_succ] at hk
    have := HSteps.get h.2 k _ hk
    rwa [show b + 1 + k = b + (k + 1) by omega] at this
theorem sunk_listed {n : Nat} {listed : Array Bool} (hc : ∀ (k : Nat) (o : Oper), l[k]? = some o → listed.getD k false = true → ∀ e ∈ o.after, Region.binds .any e = true → listed.getD e.on false = true)
    (hn : ∀ o, l[n]? = some o → ∀ e ∈ o.after, Region.binds .any e = true → listed.getD e.on false = true) : ∀ (f k : Nat), sunkB l n f k = true → listed.getD k false = true
  | 0, _, h => by simp [sunkB] at h
  | f + 1, k, h => by
    simp only [sunkB, Bool.or_eq_true, List.any_eq_true, List.mem_range, Bool.and_eq_true] at h
    rcases h with h | ⟨j, _, h1, h2⟩
    · obtain ⟨o, ho, e, he, hb, hon⟩ := Region.waitsFor_spec h
      have := hn o (by simpa using ho) e he hb
      rwa [hon] at this
    · obtain ⟨o, ho, e, he, hb, hon⟩ := Region.waitsFor_spec h1
      have := hc j o (by simpa using ho) (sunk_listed hc hn f j h2) e he hb
      rwa [hon] at this
theorem first_unlisted {listed : Array Bool} : ∀ (n : Nat), (∃ k, k < n ∧ listed.getD k false = false) → ∃ i, i < n ∧ listed.getD i false = false ∧ ∀ j, j < i → listed.getD j false = true
  | 0, ⟨k, h, _⟩ => absurd h (by omega)
  | n + 1, ⟨k, h1, h2⟩ => by
    by_cases hk : ∃ k, k < n ∧ listed.getD k false = false
    · obtain ⟨i, h3, h4, h5⟩ := first_unlisted n hk
      exact ⟨i, by omega, h4, h5⟩
    · refine ⟨n, by omega, ?_, fun j hj => ?_⟩
      · obtain rfl : k = n := by
          by_cases hkn : k = n
          · exact hkn
          · exact absurd ⟨k, by omega, h2⟩ hk
        exact h2
      · cases hj2 : listed.getD j false with
        | true => rfl
        | false => exact absurd ⟨j, hj, hj2⟩ hk

theorem wp_region_headX {id : Nat} (N n : Nat) (ds fl ex : List Nat) (V : Nat → Value → World → Prop) (hm : P.follows .mixedOrders = true) (hsz : a.tmps.size = N) (hF : headXB l ds fl ex n N = true)
    (hQ : fl = [] ∨ ∀ c d v a w, Q (.panic c) (a.put d v) w → Q (.panic c) a w)
    (hV : ∀ k u w1 w2, Below w1.heap.size w1 w2 → V k u w1 → V k u w2)
    (hsteps : HSteps P l a ds V w (l.take n) 0)
    (hY : ∀ k ∈ ex, ∀ o, l[k]? = some o → ∀ (f : Nat → Value) (w' : World), Below w.heap.size w w' → Deps V l o f w' → ∃ v, Yields P l.toArray o v (putAll a ds f) ∧ V k v w')
    (h : ∀ (f : Nat → Value) (w' : World), Below w.heap.size w w' → Alls V l n f w' → wpList P l.toArray Q (l.drop n) (putAll a ds f) w') : (Code.region id l.toArray true).wp P Q a w := by
  subst hsz
  have hstep : ∀ k o, k < n → l[k]? = some o → ∀ (f : Nat → Value) (w' : World), Below w.heap.size w w' → (∀ e ∈ o.after, Region.binds .any e = true → V e.on (f (slotOf l e.on)) w') →
      wpList P l.toArray (AftH (V k) o (putAll a ds f) w') [o] (putAll a ds f) w' := fun k o hkn hk => by
    have := HSteps.get hsteps k o (by rw [List.getElem?_take, if_pos hkn]; exact hk)
    rw [Nat.zero_add] at this
    exact fun f w' hb hU => this f w' hb ⟨hU⟩
  simp only [headXB, Bool.and_eq_true, decide_eq_true_eq] at hF
  obtain ⟨⟨⟨⟨hnl, hsel⟩, hchain⟩, hheads⟩, hseq⟩ := hF
  have hall : ∀ k o, k < n → l[k]? = some o → (∀ e ∈ o.after, Region.binds .any e = true → e.on < k) ∧ (∃ d, o.dst = some d ∧ d ∈ ds ∧ d < a.tmps.size ∧ ∀ j o', j < n → l[j]? = some o' → j ≠ k → o'.dst ≠ some d) ∧
      (k ∈ fl → n < l.length ∧ (k ∈ ex ∨ isExtract o = true) ∧ ∀ j oj, l[j]? = some oj → k < j → (n ≤ j ∨ j ∈ fl) → (∀ e ∈ oj.after, Region.binds .any e = true → e.on ≠ k) → o.apart l.toArray oj = true) ∧
      (k ∉ fl → n = l.length ∨ sunkB l n l.length k = true) := by
    intro k o hkn hk
    have := List.all_eq_true.1 hheads k (List.mem_range.2 hkn)
    simp only [hk, Bool.and_eq_true] at this
    obtain ⟨⟨h2, h3⟩, h4⟩ := this
    refine ⟨fun e he hb => ?_, ?_, fun hfl => ?_, fun hfl => ?_⟩
    · have := Array.all_eq_true_iff_forall_mem.1 h2 e he
      simpa [hb] using this
    · cases hd : o.dst with
      | none => rw [hd] at h3; simp at h3
      | some d =>
        rw [hd] at h3
        simp only [Bool.and_eq_true, decide_eq_true_eq] at h3
        refine ⟨d, rfl, by simpa using h3.1.1, h3.1.2, fun j o' hjn hj hne => ?_⟩
        have := List.all_eq_true.1 h3.2 j (List.mem_range.2 hjn)
        simp only [hj] at this
        simpa [hne] using this
    · have : fl.contains k = true := by simpa using hfl
      rw [if_pos this] at h4
      simp only [Bool.and_eq_true, decide_eq_true_eq] at h4
      refine ⟨h4.1.1, by simpa using h4.1.2, fun j oj hj hne hjn hno => ?_⟩
      have h5 := List.all_eq_true.1 h4.2 j (List.mem_range.2 (List.getElem?_eq_some_iff.1 hj).1)
      simp only [hj, Bool.or_eq_true, decide_eq_true_eq, Bool.not_eq_true', Bool.or_eq_false_iff, decide_eq_false_iff_not] at h5
      rcases h5 with (h5 | h5) | h5 | h5
      · exact absurd h5 (by omega)
      · exfalso
        rcases hjn with hjn | hjn
        · exact h5.1 hjn
        · have : fl.contains j = true := by simpa using hjn
          rw [this] at h5
          exact absurd h5.2 (by simp)
      · obtain ⟨e, he, hb⟩ := Array.any_eq_true'.1 h5
        simp only [Bool.and_eq_true, beq_iff_eq] at hb
        exact absurd hb.2 (hno e he hb.1)
      · exact h5
    · have : ¬ fl.contains k = true := by simpa using hfl
      rw [if_neg this] at h4
      simpa using h4
  refine wp_region_any hm ?_
  have main : ∀ (fuel : Nat) (listed : Array Bool) (a' : Act) (w' : World), (List.range n).countP (fun k => !listed.getD k false) = fuel → HInv l n ds V a w listed a' w' → wpAny P .any l.toArray Q (fuel + (l.length - n)) listed a' w' := by
    intro fuel
    induction fuel with
    | zero =>
      intro listed a' w' hc hI
      have hl : ∀ k, k < n → listed.getD k false = true := fun k hk => by
        have := List.countP_eq_zero.1 hc k (List.mem_range.2 hk)
        simpa using this
      have hlist : listed = ((List.range l.length).map (fun k => decide (k < n))).toArray := by
        apply Array.ext
        · simpa using hI.size
        · intro i h1 h2
          simp only [List.getElem_toArray, List.getElem_map, List.getElem_range]
          by_cases hin : i < n
          · have := hl i hin
            simp only [Array.getD, h1, dif_pos] at this
            simp only [hin, decide_true]
            exact this
          · have := hI.tail i (by omega) (by rw [← hI.size]; exact h1)
            simp only [Array.getD, h1, dif_pos] at this
            simp only [hin, decide_false]
            exact this
      obtain ⟨f, rfl, hf⟩ := hI.f
      rw [Nat.zero_add, show l.length - n = (l.drop n).length by simp]
      refine wpAny_of_seq (l.drop n) n listed _ w' (fun j => by simp) ?_ (h f w' hI.bel ⟨fun k hk => hf k hk (hl k hk)⟩)
      rw [hlist, List.length_drop]
      exact hseq
    | succ fuel ih =>
      intro listed a' w' hc hI
      obtain ⟨i, hin, hiu, hmin⟩ : ∃ i, i < n ∧ listed.getD i false = false ∧ ∀ j, j < i → listed.getD j false = true := by
        refine first_unlisted n ?_
        have : 0 < (List.range n).countP (fun k => !listed.getD k false) := by omega
        obtain ⟨k, hk, hk2⟩ := List.countP_pos_iff.1 this
        exact ⟨k, List.mem_range.1 hk, by simpa using hk2⟩
      have hil : i < l.length := by omega
      have hready : i ∈ Region.ready .any l.toArray listed := by
        rw [mem_ready]
        have hk2 : l[i]? = some l[i] := List.getElem?_eq_getElem hil
        refine ⟨?_, l[i], by simp [hk2], fun e he hb => hmin e.on ((hall i _ hin hk2).1 e he hb)⟩
        have hks : i < listed.size := by rw [hI.size]; exact hil
        simp only [Array.getD, hks, dif_pos] at hiu ⊢
        exact hiu
      -- one operation of the head
      have next : ∀ (k : Nat) (o : Oper), k < n → l[k]? = some o → listed.getD k false = false → (∀ e ∈ o.after, Region.binds .any e = true → listed.getD e.on false = true) → ∀ u w'', Below w'.heap.size w' w'' → V k u w'' →
          wpAny P .any l.toArray Q (fuel + (l.length - n)) (listed.setIfInBounds k true) (a'.put o.dst u) w'' := by
        intro k o hkn hko hku hafter u w'' hb hu
        have hkl : k < l.length := by omega
        have hks : k < listed.size := by rw [hI.size]; exact hkl
        refine ih _ _ w'' ?_ ?_
        · have := cnt_set n k (fun j => !listed.getD j false) (fun j => !(listed.setIfInBounds k true).getD j false) hkn (by simp only [hku]; rfl) (by simp [Array.getD, hks]) (fun j hj => by
            show (!(listed.setIfInBounds k true).getD j false) = !listed.getD j false
            rw [getD_set_ne false (fun e => hj e.symm)])
          omega
        · obtain ⟨f, rfl, hf⟩ := hI.f
          obtain ⟨h1, ⟨d, hd, hdm, hdl, hdo⟩, -, -⟩ := hall k o hkn hko
          refine ⟨by simpa using hI.size, fun t ht htl => ?_, fun j oj hj hl e he hbe => ?_, hI.bel.trans (hb.mono hI.bel.size), ?_⟩
          · rw [getD_set_ne false (by omega)]
            exact hI.tail t ht htl
          · have up : ∀ i, listed.getD i false = true → (listed.setIfInBounds k true).getD i false = true := fun i hi => getD_set_true hi
            by_cases hjk : j = k
            · subst hjk
              rw [hko] at hj
              cases hj
              exact up _ (hafter e he hbe)
            · rw [getD_set_ne false (fun e => hjk e.symm)] at hl
              exact up _ (hI.closed j oj hj hl e he hbe)
          · rw [hd, putAll_put hdm hdl]
            refine ⟨_, rfl, fun j hjn hl => ?_⟩
            by_cases hjk : j = k
            · subst hjk
              have : slotOf l j = d := by simp [slotOf, hko, hd]
              rw [this]
              simpa using hu
            · rw [getD_set_ne false (fun e => hjk e.symm)] at hl
              have hjl : j < l.length := by omega
              have hj2 : l[j]? = some l[j] := List.getElem?_eq_getElem hjl
              obtain ⟨-, ⟨d', hd', -⟩, -⟩ := hall j _ hjn hj2
              have hs : slotOf l j = d' := by simp [slotOf, hj2, hd']
              have hne : d' ≠ d := fun e => hdo j _ hjn hj2 hjk (by rw [hd', e])
              have := hV j _ _ _ hb (hf j hjn hl)
              rw [hs] at this ⊢
              simpa [hne] using this
      have step : ∀ (k : Nat) (o : Oper), k < n → l[k]? = some o → (∀ e ∈ o.after, Region.binds .any e = true → listed.getD e.on false = true) → wpList P l.toArray (AftH (V k) o a' w') [o] a' w' := by
        intro k o hkn hko hafter
        obtain ⟨f, rfl, hf⟩ := hI.f
        exact hstep k o hkn hko f w' hI.bel fun e he hb => hf e.on (by have := (hall k o hkn hko).1 e he hb; omega) (hafter e he hb)
      have conv : ∀ k, k ∈ Region.ready .any l.toArray listed → ∃ o, l[k]? = some o ∧ listed.getD k false = false ∧ (∀ e ∈ o.after, Region.binds .any e = true → listed.getD e.on false = true) := by
        intro k hk
        obtain ⟨h1, o, ho, hafter⟩ := mem_ready.1 hk
        exact ⟨o, by simpa using ho, getD_both h1, hafter⟩
      rw [show fuel + 1 + (l.length - n) = (fuel + (l.length - n)) + 1 by omega]
      by_cases hA : ∀ k, k < n → k ∉ fl → listed.getD k false = true
      · -- only floating operations are left
        have hifl : i ∈ fl := by
          by_cases hc : i ∈ fl
          · exact hc
          · have := hA i hin hc
            rw [hiu] at this
            cases this
        obtain ⟨o, hio, -, hafter⟩ := conv i hready
        obtain ⟨-, ⟨d, hd, hdm, hdl, -⟩, hfl, -⟩ := hall i o hin hio
        obtain ⟨-, hx, hap⟩ := hfl hifl
        obtain ⟨v, hy, u, hput, w2, hb2, rfl, hu⟩ : ∃ v, Yields P l.toArray o v a' ∧ ∃ u, a'.put o.dst u = a'.put o.dst v ∧ ∃ w2, Below w'.heap.size w' w2 ∧ w2 = w' ∧ V i u w2 := by
          rcases hx with hx | hx
          · obtain ⟨f, rfl, hf⟩ := hI.f
            obtain ⟨v, h1, h2⟩ := hY i hx o hio f w' hI.bel ⟨fun e he hb => hf e.on (by have := (hall i o hin hio).1 e he hb; omega) (hafter e he hb)⟩
            exact ⟨v, h1, v, rfl, w', Below.refl _ _, rfl, h2⟩
          · exact leaves_yields hx (step i o hin hio hafter)
        refine wpAny_first (v := v) (by simpa using hio) (Region.noSelect_spec hsel) (fun c a w hq => (hQ.resolve_left (by rintro rfl; cases hifl)) c _ _ _ _ hq) _ listed a' _ (fun j oj hj hji hju hno => ?_) hready hy ?_
        · have hj' : l[j]? = some oj := by simpa using hj
          have hij : i < j := by
            rcases Nat.lt_trichotomy j i with h | h | h
            · have := hmin j h
              rw [getD_both hju] at this
              cases this
            · exact absurd h hji
            · exact h
          refine hap j oj hj' hij ?_ hno
          by_cases hjn : n ≤ j
          · exact .inl hjn
          · right
            by_cases hjf : j ∈ fl
            · exact hjf
            · have := hA j (by omega) hjf
              rw [getD_both hju] at this
              cases this
        · rw [← hput]
          exact next i o hin hio hiu hafter u _ hb2 hu
      · -- the tail waits
        have hnl2 : ∀ k ∈ Region.ready .any l.toArray listed, k < n := by
          intro k hk
          obtain ⟨o, hko, hku, hafter⟩ := conv k hk
          have hkl : k < l.length := (List.getElem?_eq_some_iff.1 hko).1
          rcases Nat.lt_or_ge k n with hkn | hkn
          · exact hkn
          · exfalso
            by_cases hkn2 : k = n
            · subst hkn2
              apply hA
              intro j hj hjf
              have hj2 : l[j]? = some l[j] := List.getElem?_eq_getElem (by omega)
              rcases (hall j _ hj hj2).2.2.2 hjf with h5 | h5
              · omega
              · exact sunk_listed hI.closed (fun o' ho' => by rw [hko] at ho'; cases ho'; exact hafter) _ j h5
            · have h1 := List.all_eq_true.1 hchain k (List.mem_range.2 (by simpa using hkl))
              simp only [Bool.or_eq_true, decide_eq_true_eq] at h1
              rcases h1 with h1 | h1
              · omega
              · obtain ⟨o', ho', e, he, hb, hon⟩ := Region.waitsFor_spec h1
                have : o' = o := by
                  have : l[k]? = some o' := by simpa using ho'
                  rw [hko] at this
                  exact (Option.some.inj this).symm
                subst this
                have h2 := hafter e he hb
                rw [hon, hI.tail (k - 1) (by omega) (by omega)] at h2
                cases h2
        refine ⟨fun h0 => (by rw [h0] at hready; cases hready), fun k hk => ?_⟩
        obtain ⟨o, hko, hku, hafter⟩ := conv k hk
        have hkn := hnl2 k hk
        exact leaves_wp (step k o hkn hko hafter) (fun u w'' hb hu => next k o hkn hko hku hafter u w'' hb hu) k (by simpa using hko)
  have hcount : (List.range n).countP (fun k => !(Array.replicate l.length false).getD k false) = n := by
    have : (List.range n).countP (fun k => !(Array.replicate l.length false).getD k false) = (List.range n).length := by
      rw [List.countP_eq_length]
      intro k hk
      have := List.mem_range.1 hk
      have : k < l.length := by omega
      simp [Array.getD, this]
    simpa using this
  have := main n (Array.replicate l.length false) a w.drew hcount ⟨by simp, fun t _ ht => by simp [Array.getD, ht], fun k o hk hl => by
    exfalso
    have := (List.getElem?_eq_some_iff.1 hk).1
    simp [Array.getD, this] at hl, (Below.refl _ _).drew, fun s => a.tmps.getD s undef, (putAll_self a ds).symm, fun k hk hl => by
    exfalso
    have : k < l.length := by omega
    simp [Array.getD, this] at hl⟩
  rw [show n + (l.length - n) = l.toArray.size by simp; omega] at this
  simpa using this
theorem wp_region_head {id : Nat} (N n : Nat) (ds fl : List Nat) (V : Nat → Value → World → Prop) (hm : P.follows .mixedOrders = true) (hsz : a.tmps.size = N) (hF : headB l ds fl n N = true)
    (hQ : fl = [] ∨ ∀ c d v a w, Q (.panic c) (a.put d v) w → Q (.panic c) a w)
    (hV : ∀ k u w1 w2, Below w1.heap.size w1 w2 → V k u w1 → V k u w2)
    (hsteps : HSteps P l a ds V w (l.take n) 0)
    (h : ∀ (f : Nat → Value) (w' : World), Below w.heap.size w w' → Alls V l n f w' → wpList P l.toArray Q (l.drop n) (putAll a ds f) w') : (Code.region id l.toArray true).wp P Q a w :=
  wp_region_headX N n ds fl [] V hm hsz hF hQ hV hsteps (fun k hk => by cases hk) h
/-- with operations that float, some of which are shown to read slots alone -/
theorem wp_region_headXF {id : Nat} (N n : Nat) (ds fl ex : List Nat) (V : Nat → Value → World → Prop) (hm : P.follows .mixedOrders = true) (hsz : a.tmps.size = N) (hF : headXB l ds fl ex n N = true)
    (hV : ∀ k u w1 w2, Below w1.heap.size w1 w2 → V k u w1 → V k u w2)
    (hstep : HSteps P l a ds V w (l.take n) 0)
    (hY : ∀ k ∈ ex, ∀ o, l[k]? = some o → ∀ (f : Nat → Value) (w' : World), Below w.heap.size w w' → Deps V l o f w' → ∃ v, Yields P l.toArray o v (putAll a ds f) ∧ V k v w')
    (h : ∀ (f : Nat → Value) (w' : World), Below w.heap.size w w' → Alls V l n f w' → wpList P l.toArray (NoPanic Q) (l.drop n) (putAll a ds f) w') : (Code.region id l.toArray true).wp P Q a w :=
  wp_region_noPanic (wp_region_headX N n ds fl ex V hm hsz hF (.inr fun _ _ _ _ _ h => h) hV hstep hY h)
/-- with operations that float: the tail under a post that no panic meets -/
theorem wp_region_headF {id : Nat} (N n : Nat) (ds fl : List Nat) (V : Nat → Value → World → Prop) (hm : P.follows .mixedOrders = true) (hsz : a.tmps.size = N) (hF : headB l ds fl n N = true)
    (hV : ∀ k u w1 w2, Below w1.heap.size w1 w2 → V k u w1 → V k u w2)
    (hstep : HSteps P l a ds V w (l.take n) 0)
    (h : ∀ (f : Nat → Value) (w' : World), Below w.heap.size w w' → Alls V l n f w' → wpList P l.toArray (NoPanic Q) (l.drop n) (putAll a ds f) w') : (Code.region id l.toArray true).wp P Q a w :=
  wp_region_noPanic (wp_region_head N n ds fl V hm hsz hF (.inr fun _ _ _ _ _ h => h) hV hstep h)
theorem noPanic_ok (h : Q .normal a w) : NoPanic Q .normal a w := h
end
end Go.Proofs.YtlokfndonjldpaaDoor
