/- A region that draws its order, as an invariant over all orders: what each operation needs of those that it waits for, and what it leaves, said once; no order is singled out. Conditions: those of each theorem. -/
import Derived.Test.YtlokfndonjldpaaDoorDraw
set_option linter.unusedSimpArgs false
set_option linter.unusedVariables false
namespace Go.Proofs.YtlokfndonjldpaaDoor
open Go.RowKit

/-- the slots ds of a frame hold f -/
def putAll (a0 : Act) (ds : List Nat) (f : Nat → Value) : Act := ds.foldl (fun a d => a.put (some d) (f d)) a0
theorem putAll_cons (a0 : Act) (d : Nat) (ds : List Nat) (f : Nat → Value) : putAll a0 (d :: ds) f = putAll (a0.put (some d) (f d)) ds f := rfl
theorem put_size (a : Act) (d : Nat) (v : Value) : (a.put (some d) v).tmps.size = a.tmps.size := by simp [Act.put]
theorem put_defers (a : Act) (d : Nat) (v : Value) : (a.put (some d) v).defers = a.defers := rfl
theorem putAll_size (f : Nat → Value) : ∀ (ds : List Nat) (a0 : Act), (putAll a0 ds f).tmps.size = a0.tmps.size
  | [], _ => rfl
  | d :: ds, a0 => by rw [putAll_cons, putAll_size f ds, put_size]
theorem putAll_defers (f : Nat → Value) : ∀ (ds : List Nat) (a0 : Act), (putAll a0 ds f).defers = a0.defers
  | [], _ => rfl
  | d :: ds, a0 => by rw [putAll_cons, putAll_defers f ds, put_defers]
theorem putAll_getD (f : Nat → Value) (s : Nat) : ∀ (ds : List Nat) (a0 : Act), (putAll a0 ds f).tmps.getD s undef = if s ∈ ds ∧ s < a0.tmps.size then f s else a0.tmps.getD s undef
  | [], a0 => by simp [putAll]
  | d :: ds, a0 => by
    rw [putAll_cons, putAll_getD f s ds, put_size, put_getD]
    by_cases h1 : s ∈ ds ∧ s < a0.tmps.size
    · rw [if_pos h1, if_pos ⟨List.mem_cons_of_mem _ h1.1, h1.2⟩]
    · rw [if_neg h1]
      by_cases h2 : s = d ∧ d < a0.tmps.size
      · rw [if_pos h2, if_pos ⟨by rw [h2.1]; exact List.mem_cons_self .., by rw [h2.1]; exact h2.2⟩, h2.1]
      · rw [if_neg h2, if_neg]
        rintro ⟨h3, h4⟩
        rcases List.mem_cons.1 h3 with h3 | h3
        · exact h2 ⟨h3, by rw [← h3]; exact h4⟩
        · exact h1 ⟨h3, h4⟩
theorem act_ext {a b : Act} (hs : a.tmps.size = b.tmps.size) (h : ∀ i, a.tmps.getD i undef = b.tmps.getD i undef) (hd : a.defers = b.defers) : a = b := by
  obtain ⟨t, df⟩ := a
  obtain ⟨t', df'⟩ := b
  dsimp only at hs h hd
  subst hd
  congr 1
  apply Array.ext hs
  intro i h1 h2
  have := h i
  simpa [h1, h2] using this
theorem putAll_put {a0 : Act} {ds : List Nat} {f : Nat → Value} {d : Nat} (hd : d ∈ ds) (hs : d < a0.tmps.size) (u : Value) : (putAll a0 ds f).put (some d) u = putAll a0 ds (fun s => if s = d then u else f s) := by
  refine act_ext (by rw [put_size, putAll_size, putAll_size]) (fun i => ?_) (by rw [put_defers, putAll_defers, putAll_defers])
  rw [put_getD, putAll_getD, putAll_getD, putAll_size]
  by_cases h : i = d
  · rw [if_pos ⟨h, hs⟩, if_pos ⟨by rw [h]; exact hd, by rw [h]; exact hs⟩, if_pos h]
  · rw [if_neg (fun hh => h hh.1), if_neg h]
theorem putAll_self (a0 : Act) (ds : List Nat) : putAll a0 ds (fun s => a0.tmps.getD s undef) = a0 := by
  refine act_ext (putAll_size _ _ _) (fun i => ?_) (putAll_defers _ _ _)
  rw [putAll_getD]
  split <;> rfl

def isStore (o : Oper) : Bool := o.dst.isNone
/-- no guard, no select; whoever is waited for stands before; slots are named once and are in ds -/
def freeB (l : List Oper) (ds : List Nat) (n : Nat) : Bool :=
  (List.range l.length).all fun k => match l[k]? with
    | none => false
    | some o => o.guard.isNone && o.after.all (fun e => !Region.binds .any e || decide (e.on < k)) &&
      (match o.dst with
        | none => true
        | some d => ds.contains d && decide (d < n) && (List.range l.length).all (fun j => j == k || (match l[j]? with | some o' => o'.dst != some d | none => true)))
/-- is this operation done before every other store? -/
def earlyB (l : List Oper) (k : Nat) : Bool := (List.range l.length).all fun j => j == k || match l[j]? with
  | none => true
  | some o => !isStore o || o.after.any (fun e => Region.binds .any e && e.on == k)

/-- behind an operation: it gives a value and the world has grown, or it is a store, and keeps what the others left -/
def Aft (U : Nat → (Nat → Value) → World → Prop) (B : World → Prop) (k : Nat) (o : Oper) (f : Nat → Value) (a : Act) (w : World) (e : Exit) (a' : Act) (w' : World) : Prop :=
  e = .normal ∧ ((isStore o = false ∧ ∃ u, a' = a.put o.dst u ∧ Below w.heap.size w w' ∧ ∀ f', (∀ s, o.dst = some s → f' s = u) → U k f' w') ∨ (isStore o = true ∧ a' = a ∧ B w' ∧ U k f w' ∧ ∀ j f', j ≠ k → U j f' w → U j f' w'))
/-- what an operation leaves speaks of its own slot and of the slots that it waits for -/
def Local (l : List Oper) (U : Nat → (Nat → Value) → World → Prop) : Prop := ∀ (k : Nat) (o : Oper), l[k]? = some o → ∀ (f f' : Nat → Value) (w : World),
  (∀ s, (o.dst = some s ∨ ∃ e ∈ o.after, Region.binds .any e = true ∧ (l[e.on]?).bind (·.dst) = some s) → f' s = f s) → U k f w → U k f' w
theorem wp_leaves {P : Program} {o : Oper} {a : Act} {w : World} {K K' : Act → World → Prop} {Q Q' : Exit → Act → World → Prop} (hQ : ∀ e a w, e ≠ .normal → Q e a w → Q' e a w) (h : ∀ a w, K a w → K' a w)
    (hh : o.wp P a w K Q) : o.wp P a w K' Q' := by
  have hl : LetsOut Q → LetsOut Q' := fun ⟨a, w, h⟩ => ⟨a, w, hQ _ _ _ (by simp) h⟩
  unfold Oper.wp at *
  generalize (execOp a.eval o).run P w = r at *
  cases r with
  | ok n w' =>
    cases n <;> simp only [Oper.upon] at hh ⊢ <;>
      first
        | exact h _ _ hh
        | exact Calls.mono hh (fun e w'' he => by cases e <;> first | exact h _ _ he | exact hQ _ _ _ (by simp) he | exact hl he)
        | exact Rows.mono hh (fun _ _ he => h _ _ he)
  | halt x w' => cases x <;> simp only [Oper.upon] at hh ⊢ <;> first | exact hQ _ _ _ (by simp) hh | exact hh

theorem cnt_set : ∀ (n i : Nat) (p p' : Nat → Bool), i < n → p i = true → p' i = false → (∀ j, j ≠ i → p' j = p j) → (List.range n).countP p = (List.range n).countP p' + 1
  | 0, i, _, _, h, _, _, _ => absurd h (by omega)
  | n + 1, i, p, p', h, h1, h2, h3 => by
    rw [List.range_succ, List.countP_append, List.countP_append, List.countP_singleton, List.countP_singleton]
    by_cases hi : i = n
    · subst hi
      rw [h1, h2]
      have : (List.range i).countP p = (List.range i).countP p' := List.countP_congr fun j hj => by
        rw [h3 j (by have := List.mem_range.1 hj; omega)]
      simp [this]
    · rw [cnt_set n i p p' (by omega) h1 h2 h3, h3 n (fun e => hi e.symm)]
      omega

section
variable {P : Program} {Q : Exit → Act → World → Prop} {a : Act} {w : World} {l : List Oper}

/-- what holds on the way -/
structure FInv (l : List Oper) (a : Act) (ds : List Nat) (U : Nat → (Nat → Value) → World → Prop) (B Pre : World → Prop) (listed : Array Bool) (a' : Act) (w' : World) : Prop where
  b : B w'
  pre : (∀ k o, l[k]? = some o → isStore o = true → listed.getD k false = false) → Pre w'
  closed : ∀ (k : Nat) (o : Oper), l[k]? = some o → listed.getD k false = true → ∀ e ∈ o.after, Region.binds .any e = true → listed.getD e.on false = true
  f : ∃ f : Nat → Value, a' = putAll a ds f ∧ ∀ k o, l[k]? = some o → listed.getD k false = true → U k f w'

theorem wp_region_free {id : Nat} (n : Nat) (ds : List Nat) (U : Nat → (Nat → Value) → World → Prop) (B Pre : World → Prop) (hm : P.follows .mixedOrders = true) (hsz : a.tmps.size = n) (hF : freeB l ds n = true)
    (hU : ∀ k f w1 w2, Below w1.heap.size w1 w2 → U k f w1 → U k f w2) (hBb : ∀ w1 w2, Below w1.heap.size w1 w2 → B w1 → B w2) (hPb : ∀ w1 w2, Below w1.heap.size w1 w2 → Pre w1 → Pre w2)
    (h0 : B w.drew) (p0 : Pre w.drew)
    (hstep : ∀ k o, l[k]? = some o → ∀ (f : Nat → Value) (w' : World), B w' → (earlyB l k = true → Pre w') → (∀ e ∈ o.after, Region.binds .any e = true → U e.on f w') →
      wpList P l.toArray (Aft U B k o f (putAll a ds f) w') [o] (putAll a ds f) w')
    (hloc : Local l U)
    (h : ∀ f w', B w' → (∀ k o, l[k]? = some o → U k f w') → Q .normal (putAll a ds f) w') : (Code.region id l.toArray true).wp P Q a w := by
  subst hsz
  have hall : ∀ k o, l[k]? = some o → o.guard = none ∧ (∀ e ∈ o.after, Region.binds .any e = true → e.on < k) ∧ (∀ d, o.dst = some d → d ∈ ds ∧ d < a.tmps.size ∧ ∀ j o', l[j]? = some o' → j ≠ k → o'.dst ≠ some d) := by
    intro k o hk
    have hkl : k < l.length := (List.getElem?_eq_some_iff.1 hk).1
    have := List.all_eq_true.1 hF k (List.mem_range.2 hkl)
    simp only [hk, Bool.and_eq_true] at this
    obtain ⟨⟨h1, h2⟩, h3⟩ := this
    refine ⟨by simpa using h1, fun e he hb => ?_, fun d hd => ?_⟩
    · have := Array.all_eq_true_iff_forall_mem.1 h2 e he
      simpa [hb] using this
    · rw [hd] at h3
      simp only [Bool.and_eq_true, decide_eq_true_eq] at h3
      refine ⟨by simpa using h3.1.1, h3.1.2, fun j o' hj hne => ?_⟩
      have := List.all_eq_true.1 h3.2 j (List.mem_range.2 (List.getElem?_eq_some_iff.1 hj).1)
      simp only [hj] at this
      simpa [hne] using this
  refine wp_region_any hm ?_
  have main : ∀ (fuel : Nat) (listed : Array Bool) (a' : Act) (w' : World), listed.size = l.length → (List.range l.length).countP (fun k => !listed.getD k false) = fuel → FInv l a ds U B Pre listed a' w' → wpAny P .any l.toArray Q fuel listed a' w' := by
    have done : ∀ (listed : Array Bool) (a' : Act) (w' : World), listed.size = l.length → FInv l a ds U B Pre listed a' w' → Region.ready .any l.toArray listed = [] → Q .normal a' w' := by
      intro listed a' w' hs hI hr
      have hl : ∀ k, k < l.length → listed.getD k false = true := by
        intro k
        induction k using Nat.strongRecOn with
        | _ k ih =>
          intro hk
          by_cases hh : listed.getD k false = true
          · exact hh
          · exfalso
            have : k ∈ Region.ready .any l.toArray listed := by
              rw [mem_ready]
              have hk2 : l[k]? = some l[k] := List.getElem?_eq_getElem hk
              refine ⟨?_, l[k], by simp [hk2], fun e he hb => ih e.on ((hall k _ hk2).2.1 e he hb) (by have := (hall k _ hk2).2.1 e he hb; omega)⟩
              have hks : k < listed.size := by omega
              simp only [Array.getD, hks, dif_pos] at hh ⊢
              simpa using hh
            rw [hr] at this
            cases this
      obtain ⟨f, rfl, hf⟩ := hI.f
      exact h f w' hI.b fun k o hk => hf k o hk (hl k (List.getElem?_eq_some_iff.1 hk).1)
    intro fuel
    induction fuel with
    | zero =>
      intro listed a' w' hs hc hI
      have hr : Region.ready .any l.toArray listed = [] := by
        rw [List.eq_nil_iff_forall_not_mem]
        intro k hk
        obtain ⟨h1, o, ho, _⟩ := mem_ready.1 hk
        have hkl : k < l.length := by simpa using (Array.getElem?_eq_some_iff.1 ho).1
        have := List.countP_eq_zero.1 hc k (List.mem_range.2 hkl)
        have hks : k < listed.size := by omega
        simp only [Array.getD, hks, dif_pos] at h1 this
        rw [h1] at this
        simp at this
      exact ⟨hr, done listed a' w' hs hI hr⟩
    | succ fuel ih =>
      intro listed a' w' hs hc hI
      refine ⟨fun hr => done listed a' w' hs hI hr, fun k hk => ?_⟩
      obtain ⟨h1, o, ho, hafter⟩ := mem_ready.1 hk
      have hko : l[k]? = some o := by simpa using ho
      have hkl : k < l.length := (List.getElem?_eq_some_iff.1 hko).1
      have hks : k < listed.size := by omega
      have hkf : listed.getD k false = false := by
        simp only [Array.getD, hks, dif_pos] at h1 ⊢
        exact h1
      obtain ⟨hg, hon, hds⟩ := hall k o hko
      have hafter' : ∀ e ∈ o.after, Region.binds .any e = true → listed.getD e.on false = true := fun e he hb => by
        have h3 := hafter e he hb
        have h4 : e.on < listed.size := by have := hon e he hb; omega
        simp only [Array.getD, h4, dif_pos] at h3 ⊢
        exact h3
      obtain ⟨f, rfl, hf⟩ := hI.f
      have hnext : ∀ (a2 : Act) (w2 : World), FInv l a ds U B Pre (listed.setIfInBounds k true) a2 w2 → wpAny P .any l.toArray Q fuel (listed.setIfInBounds k true) a2 w2 := fun a2 w2 hI2 => by
        refine ih _ a2 w2 (by simpa using hs) ?_ hI2
        have := cnt_set l.length k (fun j => !listed.getD j false) (fun j => !(listed.setIfInBounds k true).getD j false) hkl (by simp [hkf]) (by simp [Array.getD, hks]) (fun j hj => by
          show (!(listed.setIfInBounds k true).getD j false) = !listed.getD j false
          rw [getD_set_ne false (fun e => hj e.symm)])
        omega
      have hset : ∀ j, (listed.setIfInBounds k true).getD j false = true → j = k ∨ listed.getD j false = true := fun j hj => by
        by_cases hjk : j = k
        · exact .inl hjk
        · right
          rw [getD_set_ne false (fun e => hjk e.symm)] at hj
          exact hj
      have hpre : ∀ e ∈ o.after, Region.binds .any e = true → U e.on f w' := fun e he hb => by
        have hlt := hon e he hb
        exact hf e.on _ (List.getElem?_eq_getElem (by omega)) (hafter e he hb)
      have hearly : earlyB l k = true → Pre w' := fun he => hI.pre fun j oj hj hst => by
        by_cases hjk : j = k
        · rw [hjk]
          exact hkf
        have := List.all_eq_true.1 he j (List.mem_range.2 (List.getElem?_eq_some_iff.1 hj).1)
        have hjk' : (j == k) = false := by simpa using hjk
        simp only [hj, hst, hjk', Bool.not_true, Bool.false_or] at this
        obtain ⟨i, hi, hee⟩ := Array.any_eq_true.1 this
        simp only [Bool.and_eq_true, beq_iff_eq] at hee
        cases hl : listed.getD j false with
        | false => rfl
        | true =>
          have := hI.closed j oj hj hl _ (Array.getElem_mem hi) hee.1
          rw [hee.2, hkf] at this
          cases this
      have hs2 := hstep k o hko f w' hI.b hearly hpre
      have hclosed : ∀ (j : Nat) (oj : Oper), l[j]? = some oj → (listed.setIfInBounds k true).getD j false = true → ∀ e ∈ oj.after, Region.binds .any e = true → (listed.setIfInBounds k true).getD e.on false = true := by
        have up : ∀ i, listed.getD i false = true → (listed.setIfInBounds k true).getD i false = true := fun i hi => by
          by_cases hik : i = k
          · subst hik
            simp [Array.getD, hks]
          · rw [getD_set_ne false (fun e => hik e.symm)]
            exact hi
        intro j oj hj hl e he hb
        rcases hset j hl with hjk | hl
        · subst hjk
          rw [hko] at hj
          cases hj
          exact up _ (hafter' e he hb)
        · exact up _ (hI.closed j oj hj hl e he hb)
      have fin : ∀ u w'', isStore o = false → Below w'.heap.size w' w'' → (∀ f', (∀ s, o.dst = some s → f' s = u) → U k f' w'') → wpAny P .any l.toArray Q fuel (listed.setIfInBounds k true) ((putAll a ds f).put o.dst u) w'' := fun u w'' hst hb hu => by
        simp only [isStore, Option.isNone_eq_false_iff] at hst
        obtain ⟨d, hd⟩ := Option.isSome_iff_exists.1 hst
        obtain ⟨d1, d2, d3⟩ := hds d hd
        rw [hd, putAll_put d1 d2]
        refine hnext _ _ ⟨hBb _ _ hb hI.b, fun hh => hPb _ _ hb (hI.pre fun j oj hj hsj => ?_), hclosed, ⟨_, rfl, fun j oj hj hl => ?_⟩⟩
        · have := hh j oj hj hsj
          by_cases hjk : k = j
          · subst hjk
            rw [hko] at hj
            cases hj
            simp [isStore, hd] at hsj
          · rw [getD_set_ne false hjk] at this
            exact this
        · by_cases hjk : j = k
          · subst hjk
            rw [hko] at hj
            cases hj
            exact hu _ fun s hs => by
              rw [hd] at hs
              cases hs
              simp
          · have hl := (hset j hl).resolve_left hjk
            refine hloc j oj hj f _ w'' (fun s hs => ?_) (hU _ _ _ _ hb (hf j oj hj hl))
            have hsd : s ≠ d := by
              rintro rfl
              rcases hs with hs | ⟨e, he, hbe, hs⟩
              · exact d3 j oj hj hjk hs
              · cases hle : l[e.on]? with
                | none => simp [hle] at hs
                | some oe =>
                  rw [hle] at hs
                  refine d3 e.on oe hle ?_ hs
                  intro hek
                  have := hI.closed j oj hj hl e he hbe
                  rw [hek, hkf] at this
                  cases this
            simp [hsd]
      unfold wpOp
      rw [ho]
      have hw : Region.wanted o (yielded l.toArray (putAll a ds f).tmps) = true := by simp [Region.wanted, hg]
      simp only [hw, if_true]
      unfold wpList at hs2
      simp only [hw, if_true] at hs2
      refine .inl ?_
      rcases hs2 with hs2 | ⟨_, a2, w2, hs2⟩
      · refine wp_leaves (fun e a2 w2 hne hh => absurd hh.1 hne) (fun a2 w2 hh => ?_) hs2
        obtain ⟨-, ⟨e1, u, rfl, hb, hu⟩ | ⟨e1, rfl, e2, e3, e4⟩⟩ := (show Aft U B k o f (putAll a ds f) w' .normal a2 w2 from hh)
        · exact fin u w2 e1 hb hu
        · simp only [isStore, Option.isNone_iff_eq_none] at e1
          refine hnext _ _ ⟨e2, fun hh => ?_, hclosed, ⟨f, rfl, fun j oj hj hl => ?_⟩⟩
          · have := hh k o hko (by simp [isStore, e1])
            simp [Array.getD, hks] at this
          · by_cases hjk : j = k
            · subst hjk
              rw [hko] at hj
              cases hj
              exact e3
            · rcases hset j hl with hl | hl
              · exact absurd hl hjk
              · exact e4 j _ hjk (hf j oj hj hl)
      · exact absurd hs2.1 (by simp)
  exact main _ _ a w.drew (by simp) (by
    rw [List.countP_eq_length.2]
    · simp
    · intro k hk
      have := List.mem_range.1 hk
      simp [Array.getD, this]) ⟨h0, fun _ => p0, fun k o hk hl => by
      exfalso
      have := (List.getElem?_eq_some_iff.1 hk).1
      simp [Array.getD, this] at hl, ⟨fun s => a.tmps.getD s undef, (putAll_self a ds).symm, fun k o hk hl => by
      exfalso
      have := (List.getElem?_eq_some_iff.1 hk).1
      simp [Array.getD, this] at hl⟩⟩
end
end Go.Proofs.YtlokfndonjldpaaDoor
